-- Written by a program of this session (wip/tools/mk.sh) for this claim: it runs the kit's print with contracts of our own. Lean checks it.
import Derived.Test.YtbjbagocnnffaaaDoorPx0
import Derived.Test.YtbjbagocnnffaaaDoorWRepsOne
import Derived.Test.YtbjbagocnnffaaaDoorZStr
import Derived.Test.YtbjbagocnnffaaaDoorPx12
import Derived.Test.YtbjbagocnnffaaaDoorPx13
namespace Go.Proofs.YtbjbagocnnffaaaDoor.P
open Go.RowKit Go.Proofs.YtbjbagocnnffaaaDoorW.PrintWords Go.Proofs.YtbjbagocnnffaaaDoorW.PrintLast Go.Proofs.YtbjbagocnnffaaaDoorW.PrintMore
attribute [-simp] Int.tmod_tmod_of_dvd
attribute [local go_sem] max2_int min2_int max_two min_two max_three min_three max_four min_four   -- for this text's walks alone
set_option linter.unusedVariables false
set_option linter.unusedSimpArgs false

/-! ### letterboxref15_Put: function 15 -/
mutual
def letterboxref15_Put.l0 : Nat → Bool → ByteArray → Int → List Int → Int → List ByteArray → Bool → Int → Int → Option (ByteArray)
 | 0, _, _, _, _, _, _, _, _, _ => none
 | k + 1, x1, x5, x6, x234000, x234001, x234002, x234003, x234004, x234005 => if x6 < (x234000.length : Int) then (if x6 > 0 then (if x5.size + 1 ≤ 9223372036854775807 then (if 0 ≤ x6 then ((letterboxref01_Digits.f k (rd x234000 x6)).bind fun t236 => (if (x5 ++ (⟨#[46]⟩ : ByteArray)).size + t236.size ≤ 9223372036854775807 then (letterboxref15_Put.l0 k x1 ((x5 ++ (⟨#[46]⟩ : ByteArray)) ++ t236) (wrap64 (x6 + 1)) x234000 x234001 x234002 x234003 x234004 x234005) else (none))) else (none)) else (none)) else (if 0 ≤ x6 then ((letterboxref01_Digits.f k (rd x234000 x6)).bind fun t238 => (if x5.size + t238.size ≤ 9223372036854775807 then (letterboxref15_Put.l0 k x1 (x5 ++ t238) (wrap64 (x6 + 1)) x234000 x234001 x234002 x234003 x234004 x234005) else (none))) else (none))) else (if (x234000.length : Int) > 0 then (letterboxref15_Put.j1 k x1 x5 (x234001 != 0) x234000 x234001 x234002 x234003 x234004 x234005) else (letterboxref15_Put.j1 k x1 x5 false x234000 x234001 x234002 x234003 x234004 x234005))
def letterboxref15_Put.j1 : Nat → Bool → ByteArray → Bool → List Int → Int → List ByteArray → Bool → Int → Int → Option (ByteArray)
 | 0, _, _, _, _, _, _, _, _, _ => none
 | k + 1, x1, x5, x38, x234000, x234001, x234002, x234003, x234004, x234005 => if x38 = true then (if x5.size + 1 ≤ 9223372036854775807 then (letterboxref15_Put.j2 k x1 (x5 ++ (⟨#[46]⟩ : ByteArray)) x234000 x234001 x234002 x234003 x234004 x234005) else (none)) else (letterboxref15_Put.j2 k x1 x5 x234000 x234001 x234002 x234003 x234004 x234005)
def letterboxref15_Put.j2 : Nat → Bool → ByteArray → List Int → Int → List ByteArray → Bool → Int → Int → Option (ByteArray)
 | 0, _, _, _, _, _, _, _, _ => none
 | k + 1, x1, x5, x234000, x234001, x234002, x234003, x234004, x234005 => (letterboxref15_word.f x234001).bind fun t239 => (if x5.size + t239.size ≤ 9223372036854775807 then (letterboxref15_Put.l1 k x1 (x5 ++ t239) 0 x234000 x234001 x234002 x234003 x234004 x234005) else (none))
def letterboxref15_Put.l1 : Nat → Bool → ByteArray → Int → List Int → Int → List ByteArray → Bool → Int → Int → Option (ByteArray)
 | 0, _, _, _, _, _, _, _, _, _ => none
 | k + 1, x1, x5, x7, x234000, x234001, x234002, x234003, x234004, x234005 => if x7 < (x234002.length : Int) then (if x7 = 0 then (if x5.size + 2 ≤ 9223372036854775807 then (if 0 ≤ x7 then ((letterboxref15_name.f k (rdOf ByteArray.empty x234002 x7)).bind fun t241 => (if (x5 ++ (⟨#[32, 40]⟩ : ByteArray)).size + t241.size ≤ 9223372036854775807 then (letterboxref15_Put.l1 k x1 ((x5 ++ (⟨#[32, 40]⟩ : ByteArray)) ++ t241) (wrap64 (x7 + 1)) x234000 x234001 x234002 x234003 x234004 x234005) else (none))) else (none)) else (none)) else (if x5.size + 1 ≤ 9223372036854775807 then (if 0 ≤ x7 then ((letterboxref15_name.f k (rdOf ByteArray.empty x234002 x7)).bind fun t243 => (if (x5 ++ (⟨#[32]⟩ : ByteArray)).size + t243.size ≤ 9223372036854775807 then (letterboxref15_Put.l1 k x1 ((x5 ++ (⟨#[32]⟩ : ByteArray)) ++ t243) (wrap64 (x7 + 1)) x234000 x234001 x234002 x234003 x234004 x234005) else (none))) else (none)) else (none))) else (if (x234002.length : Int) > 0 then (if x5.size + 1 ≤ 9223372036854775807 then (letterboxref15_Put.j4 k x1 (x5 ++ (⟨#[41]⟩ : ByteArray)) x234000 x234001 x234002 x234003 x234004 x234005) else (none)) else (letterboxref15_Put.j4 k x1 x5 x234000 x234001 x234002 x234003 x234004 x234005))
def letterboxref15_Put.j4 : Nat → Bool → ByteArray → List Int → Int → List ByteArray → Bool → Int → Int → Option (ByteArray)
 | 0, _, _, _, _, _, _, _, _ => none
 | k + 1, x1, x5, x234000, x234001, x234002, x234003, x234004, x234005 => if x5.size + 1 ≤ 9223372036854775807 then (if x234003 = true then ((letterboxref01_Digits.f k x234004).bind fun t244 => (if 1 + t244.size ≤ 9223372036854775807 then (if (x5 ++ (⟨#[93]⟩ : ByteArray)).size + ((⟨#[60]⟩ : ByteArray) ++ t244).size ≤ 9223372036854775807 then (if x1 = true then (if ((x5 ++ (⟨#[93]⟩ : ByteArray)) ++ ((⟨#[60]⟩ : ByteArray) ++ t244)).size + 1 ≤ 9223372036854775807 then (some (((x5 ++ (⟨#[93]⟩ : ByteArray)) ++ ((⟨#[60]⟩ : ByteArray) ++ t244)) ++ (⟨#[62]⟩ : ByteArray))) else (none)) else ((letterboxref01_Digits.f k x234005).bind fun t245 => (if 1 + t245.size ≤ 9223372036854775807 then (if ((x5 ++ (⟨#[93]⟩ : ByteArray)) ++ ((⟨#[60]⟩ : ByteArray) ++ t244)).size + ((⟨#[46]⟩ : ByteArray) ++ t245).size ≤ 9223372036854775807 then (if (((x5 ++ (⟨#[93]⟩ : ByteArray)) ++ ((⟨#[60]⟩ : ByteArray) ++ t244)) ++ ((⟨#[46]⟩ : ByteArray) ++ t245)).size + 1 ≤ 9223372036854775807 then (some ((((x5 ++ (⟨#[93]⟩ : ByteArray)) ++ ((⟨#[60]⟩ : ByteArray) ++ t244)) ++ ((⟨#[46]⟩ : ByteArray) ++ t245)) ++ (⟨#[62]⟩ : ByteArray))) else (none)) else (none)) else (none)))) else (none)) else (none))) else (some (x5 ++ (⟨#[93]⟩ : ByteArray)))) else (none)
end
def letterboxref15_Put.f (k : Nat) (l0_0 : List Int) (a0_1 : Int) (l0_2 : List ByteArray) (a0_3 : Bool) (a0_4 : Int) (a0_5 : Int) (a1 : Bool) : Option (ByteArray) := (letterboxref15_Check.f k l0_0 a0_1 l0_2 a0_3 a0_4 a0_5).bind fun t234 => (if t234 = 0 then (letterboxref15_Put.l0 k a1 (⟨#[91]⟩ : ByteArray) 0 l0_0 a0_1 l0_2 a0_3 a0_4 a0_5) else (some (⟨#[]⟩ : ByteArray)))
theorem letterboxref15_Put.mono_l : ∀ k, (∀ y0 y1 y2 y3 y4 y5 y6 y7 y8, LeO (letterboxref15_Put.l0 k y0 y1 y2 y3 y4 y5 y6 y7 y8) (letterboxref15_Put.l0 (k + 1) y0 y1 y2 y3 y4 y5 y6 y7 y8)) ∧ (∀ y0 y1 y2 y3 y4 y5 y6 y7 y8, LeO (letterboxref15_Put.j1 k y0 y1 y2 y3 y4 y5 y6 y7 y8) (letterboxref15_Put.j1 (k + 1) y0 y1 y2 y3 y4 y5 y6 y7 y8)) ∧ (∀ y0 y1 y2 y3 y4 y5 y6 y7, LeO (letterboxref15_Put.j2 k y0 y1 y2 y3 y4 y5 y6 y7) (letterboxref15_Put.j2 (k + 1) y0 y1 y2 y3 y4 y5 y6 y7)) ∧ (∀ y0 y1 y2 y3 y4 y5 y6 y7 y8, LeO (letterboxref15_Put.l1 k y0 y1 y2 y3 y4 y5 y6 y7 y8) (letterboxref15_Put.l1 (k + 1) y0 y1 y2 y3 y4 y5 y6 y7 y8)) ∧ (∀ y0 y1 y2 y3 y4 y5 y6 y7, LeO (letterboxref15_Put.j4 k y0 y1 y2 y3 y4 y5 y6 y7) (letterboxref15_Put.j4 (k + 1) y0 y1 y2 y3 y4 y5 y6 y7))
 | 0 => ⟨fun _ _ _ _ _ _ _ _ _ r h => by simp [letterboxref15_Put.l0] at h, fun _ _ _ _ _ _ _ _ _ r h => by simp [letterboxref15_Put.j1] at h, fun _ _ _ _ _ _ _ _ r h => by simp [letterboxref15_Put.j2] at h, fun _ _ _ _ _ _ _ _ _ r h => by simp [letterboxref15_Put.l1] at h, fun _ _ _ _ _ _ _ _ r h => by simp [letterboxref15_Put.j4] at h⟩
 | k + 1 => by
  obtain ⟨ih0, ih1, ih2, ih3, ih4⟩ := letterboxref15_Put.mono_l k
  refine ⟨?_, ?_, ?_, ?_, ?_⟩
  ·intro y0 y1 y2 y3 y4 y5 y6 y7 y8
   unfold letterboxref15_Put.l0
   repeat' first
   | (with_reducible exact ih0 _ _ _ _ _ _ _ _ _)
   | (with_reducible exact ih1 _ _ _ _ _ _ _ _ _)
   | (with_reducible exact ih2 _ _ _ _ _ _ _ _)
   | (with_reducible exact ih3 _ _ _ _ _ _ _ _ _)
   | (with_reducible exact ih4 _ _ _ _ _ _ _ _)
   | (with_reducible exact letterboxref01_Digits.mono _ _)
   | (with_reducible exact letterboxref15_Check.mono _ _ _ _ _ _ _)
   | (with_reducible exact letterboxref15_name.mono _ _)
   | (with_reducible exact LeO.refl _)
   | (with_reducible exact LeO.none _)
   | (with_reducible refine LeO.ite ?_ ?_)
   | (with_reducible refine LeO.bind ?_ (fun _ => ?_))
   | exact ih0 _ _ _ _ _ _ _ _ _
   | exact ih1 _ _ _ _ _ _ _ _ _
   | exact ih2 _ _ _ _ _ _ _ _
   | exact ih3 _ _ _ _ _ _ _ _ _
   | exact ih4 _ _ _ _ _ _ _ _
   | exact letterboxref01_Digits.mono _ _
   | exact letterboxref15_Check.mono _ _ _ _ _ _ _
   | exact letterboxref15_name.mono _ _
   | exact LeO.none _
   | refine LeO.ite ?_ ?_
   | refine LeO.bind ?_ (fun _ => ?_)
  ·intro y0 y1 y2 y3 y4 y5 y6 y7 y8
   unfold letterboxref15_Put.j1
   repeat' first
   | (with_reducible exact ih0 _ _ _ _ _ _ _ _ _)
   | (with_reducible exact ih1 _ _ _ _ _ _ _ _ _)
   | (with_reducible exact ih2 _ _ _ _ _ _ _ _)
   | (with_reducible exact ih3 _ _ _ _ _ _ _ _ _)
   | (with_reducible exact ih4 _ _ _ _ _ _ _ _)
   | (with_reducible exact letterboxref01_Digits.mono _ _)
   | (with_reducible exact letterboxref15_Check.mono _ _ _ _ _ _ _)
   | (with_reducible exact letterboxref15_name.mono _ _)
   | (with_reducible exact LeO.refl _)
   | (with_reducible exact LeO.none _)
   | (with_reducible refine LeO.ite ?_ ?_)
   | (with_reducible refine LeO.bind ?_ (fun _ => ?_))
   | exact ih0 _ _ _ _ _ _ _ _ _
   | exact ih1 _ _ _ _ _ _ _ _ _
   | exact ih2 _ _ _ _ _ _ _ _
   | exact ih3 _ _ _ _ _ _ _ _ _
   | exact ih4 _ _ _ _ _ _ _ _
   | exact letterboxref01_Digits.mono _ _
   | exact letterboxref15_Check.mono _ _ _ _ _ _ _
   | exact letterboxref15_name.mono _ _
   | exact LeO.none _
   | refine LeO.ite ?_ ?_
   | refine LeO.bind ?_ (fun _ => ?_)
  ·intro y0 y1 y2 y3 y4 y5 y6 y7
   unfold letterboxref15_Put.j2
   repeat' first
   | (with_reducible exact ih0 _ _ _ _ _ _ _ _ _)
   | (with_reducible exact ih1 _ _ _ _ _ _ _ _ _)
   | (with_reducible exact ih2 _ _ _ _ _ _ _ _)
   | (with_reducible exact ih3 _ _ _ _ _ _ _ _ _)
   | (with_reducible exact ih4 _ _ _ _ _ _ _ _)
   | (with_reducible exact letterboxref01_Digits.mono _ _)
   | (with_reducible exact letterboxref15_Check.mono _ _ _ _ _ _ _)
   | (with_reducible exact letterboxref15_name.mono _ _)
   | (with_reducible exact LeO.refl _)
   | (with_reducible exact LeO.none _)
   | (with_reducible refine LeO.ite ?_ ?_)
   | (with_reducible refine LeO.bind ?_ (fun _ => ?_))
   | exact ih0 _ _ _ _ _ _ _ _ _
   | exact ih1 _ _ _ _ _ _ _ _ _
   | exact ih2 _ _ _ _ _ _ _ _
   | exact ih3 _ _ _ _ _ _ _ _ _
   | exact ih4 _ _ _ _ _ _ _ _
   | exact letterboxref01_Digits.mono _ _
   | exact letterboxref15_Check.mono _ _ _ _ _ _ _
   | exact letterboxref15_name.mono _ _
   | exact LeO.none _
   | refine LeO.ite ?_ ?_
   | refine LeO.bind ?_ (fun _ => ?_)
  ·intro y0 y1 y2 y3 y4 y5 y6 y7 y8
   unfold letterboxref15_Put.l1
   repeat' first
   | (with_reducible exact ih0 _ _ _ _ _ _ _ _ _)
   | (with_reducible exact ih1 _ _ _ _ _ _ _ _ _)
   | (with_reducible exact ih2 _ _ _ _ _ _ _ _)
   | (with_reducible exact ih3 _ _ _ _ _ _ _ _ _)
   | (with_reducible exact ih4 _ _ _ _ _ _ _ _)
   | (with_reducible exact letterboxref01_Digits.mono _ _)
   | (with_reducible exact letterboxref15_Check.mono _ _ _ _ _ _ _)
   | (with_reducible exact letterboxref15_name.mono _ _)
   | (with_reducible exact LeO.refl _)
   | (with_reducible exact LeO.none _)
   | (with_reducible refine LeO.ite ?_ ?_)
   | (with_reducible refine LeO.bind ?_ (fun _ => ?_))
   | exact ih0 _ _ _ _ _ _ _ _ _
   | exact ih1 _ _ _ _ _ _ _ _ _
   | exact ih2 _ _ _ _ _ _ _ _
   | exact ih3 _ _ _ _ _ _ _ _ _
   | exact ih4 _ _ _ _ _ _ _ _
   | exact letterboxref01_Digits.mono _ _
   | exact letterboxref15_Check.mono _ _ _ _ _ _ _
   | exact letterboxref15_name.mono _ _
   | exact LeO.none _
   | refine LeO.ite ?_ ?_
   | refine LeO.bind ?_ (fun _ => ?_)
  ·intro y0 y1 y2 y3 y4 y5 y6 y7
   unfold letterboxref15_Put.j4
   repeat' first
   | (with_reducible exact ih0 _ _ _ _ _ _ _ _ _)
   | (with_reducible exact ih1 _ _ _ _ _ _ _ _ _)
   | (with_reducible exact ih2 _ _ _ _ _ _ _ _)
   | (with_reducible exact ih3 _ _ _ _ _ _ _ _ _)
   | (with_reducible exact ih4 _ _ _ _ _ _ _ _)
   | (with_reducible exact letterboxref01_Digits.mono _ _)
   | (with_reducible exact letterboxref15_Check.mono _ _ _ _ _ _ _)
   | (with_reducible exact letterboxref15_name.mono _ _)
   | (with_reducible exact LeO.refl _)
   | (with_reducible exact LeO.none _)
   | (with_reducible refine LeO.ite ?_ ?_)
   | (with_reducible refine LeO.bind ?_ (fun _ => ?_))
   | exact ih0 _ _ _ _ _ _ _ _ _
   | exact ih1 _ _ _ _ _ _ _ _ _
   | exact ih2 _ _ _ _ _ _ _ _
   | exact ih3 _ _ _ _ _ _ _ _ _
   | exact ih4 _ _ _ _ _ _ _ _
   | exact letterboxref01_Digits.mono _ _
   | exact letterboxref15_Check.mono _ _ _ _ _ _ _
   | exact letterboxref15_name.mono _ _
   | exact LeO.none _
   | refine LeO.ite ?_ ?_
   | refine LeO.bind ?_ (fun _ => ?_)
theorem letterboxref15_Put.mono : ∀ a0 a1 a2 a3 a4 a5 a6 k, LeO (letterboxref15_Put.f k a0 a1 a2 a3 a4 a5 a6) (letterboxref15_Put.f (k + 1) a0 a1 a2 a3 a4 a5 a6) := by
 intro a0 a1 a2 a3 a4 a5 a6 k
 obtain ⟨ih0, ih1, ih2, ih3, ih4⟩ := letterboxref15_Put.mono_l k
 unfold letterboxref15_Put.f
 repeat' first
   | (with_reducible exact ih0 _ _ _ _ _ _ _ _ _)
   | (with_reducible exact ih1 _ _ _ _ _ _ _ _ _)
   | (with_reducible exact ih2 _ _ _ _ _ _ _ _)
   | (with_reducible exact ih3 _ _ _ _ _ _ _ _ _)
   | (with_reducible exact ih4 _ _ _ _ _ _ _ _)
   | (with_reducible exact letterboxref01_Digits.mono _ _)
   | (with_reducible exact letterboxref15_Check.mono _ _ _ _ _ _ _)
   | (with_reducible exact letterboxref15_name.mono _ _)
   | (with_reducible exact LeO.refl _)
   | (with_reducible exact LeO.none _)
   | (with_reducible refine LeO.ite ?_ ?_)
   | (with_reducible refine LeO.bind ?_ (fun _ => ?_))
   | exact ih0 _ _ _ _ _ _ _ _ _
   | exact ih1 _ _ _ _ _ _ _ _ _
   | exact ih2 _ _ _ _ _ _ _ _
   | exact ih3 _ _ _ _ _ _ _ _ _
   | exact ih4 _ _ _ _ _ _ _ _
   | exact letterboxref01_Digits.mono _ _
   | exact letterboxref15_Check.mono _ _ _ _ _ _ _
   | exact letterboxref15_name.mono _ _
   | exact LeO.none _
   | refine LeO.ite ?_ ?_
   | refine LeO.bind ?_ (fun _ => ?_)
set_option maxHeartbeats 8000000 in
set_option maxRecDepth 100000 in
theorem letterboxref15_Put.calls (k : Nat) (A0_0 : Option Addr) (c0_0 : Nat) (l0_0 : List Int) (a0_1 : Int) (A0_2 : Option Addr) (c0_2 : Nat) (l0_2 : List ByteArray) (a0_3 : Bool) (a0_4 : Int) (a0_5 : Int) (a1 : Bool) (r : ByteArray) (w : World) (hr0_0 : Kd.C (Kd.int .i64) w A0_0 l0_0.length l0_0) (hc0_0 : l0_0.length ≤ c0_0) (hr0_2 : Kd.C Kd.string w A0_2 l0_2.length l0_2) (hc0_2 : l0_2.length ≤ c0_2) (h : letterboxref15_Put.f k l0_0 a0_1 l0_2 a0_3 a0_4 a0_5 a1 = some r) :
  Calls Tryd.prog 15 #[.agg #[.slice A0_0 l0_0.length c0_0, .int .i64 a0_1, .slice A0_2 l0_2.length c0_2, .bool a0_3, .int .i64 a0_4, .int .i64 a0_5], .bool a1] w fun e w' => e = .returned (.string r) ∧ Below w.heap.size w w' := by
 have hu30 := Tryd.underlying30
 have HR0_0 := Aside0.mk hr0_0
 have HC0_0 := Aside0.mk hc0_0
 clear hr0_0 hc0_0
 have HR0_2 := Aside0.mk hr0_2
 have HC0_2 := Aside0.mk hc0_2
 clear hr0_2 hc0_2
 have HB := Aside0.mk (Below.refl w.heap.size w)
 have H : ((letterboxref15_Check.f k l0_0 a0_1 l0_2 a0_3 a0_4 a0_5).bind fun t234 => (if t234 = 0 then (letterboxref15_Put.l0 k a1 (⟨#[91]⟩ : ByteArray) 0 l0_0 a0_1 l0_2 a0_3 a0_4 a0_5) else (some (⟨#[]⟩ : ByteArray)))) = some r := h
 clear h
 replace H := Option.bind_eq_some_iff.mp H
 obtain ⟨t234, A30, H⟩ := H
 replace H : (if t234 = 0 then (letterboxref15_Put.l0 k a1 (⟨#[91]⟩ : ByteArray) 0 l0_0 a0_1 l0_2 a0_3 a0_4 a0_5) else (some (⟨#[]⟩ : ByteArray))) = some r := H
 have A3 := Aside0.mk A30
 clear A30
 by_cases c4 : t234 = 0
 ·rw [if_pos c4] at H
  have c4b0 : (t234 == 0) = true := beq_iff_eq.mpr c4
  have c4b1 : (t234 != 0) = false := bne_eq_false_iff_eq.mpr c4
  clear c4
  have H' := Aside0.mk H
  clear H
  go_enter Tryd.func15, Tryd.ntmps15
  go_wp2_with (first | ((with_reducible refine gate_dst (N := 2) rfl ?_); refine box_event ?hg (N := 2) ?hd (cs := #[.slice A0_0 l0_0.length c0_0, .int .i64 a0_1, .slice A0_2 l0_2.length c0_2, .bool a0_3, .int .i64 a0_4, .int .i64 a0_5]) (t := 30) ?hr ?_; (case hd => rfl); (case hg => rfl); (case hr => first | (go_simp; done) | (go_simp; rfl)); intro gb233 hg w5 hbox hb; have n0_ := Aside0.mk (below_step (qb_ HB.out) hb); have n1_ := Aside0.mk (hbox); have n2_ := Aside0.mk ((by rw [hg]; exact (below_size (qb_ HB.out)) : w.heap.size ≤ gb233)); have n3_ := Aside0.mk ((by rw [hg]; exact (below_size (qb_ HB.out)) : w.heap.size ≤ gb233)); clear HB; have HB := n0_; have BK233 := n1_; have GW233 := n2_; have GE233 := n3_; clear n0_ n1_ n2_ n3_; clear hb hbox hg; have hcz6_0 : w5.cell? ⟨gb233, 0, none⟩ = some (.slice A0_0 l0_0.length c0_0) := (blk_cell BK233.out 0).trans rfl; have hcz6_1 : w5.cell? ⟨gb233, 1, none⟩ = some (.int .i64 a0_1) := (blk_cell BK233.out 1).trans rfl; have hcz6_2 : w5.cell? ⟨gb233, 2, none⟩ = some (.slice A0_2 l0_2.length c0_2) := (blk_cell BK233.out 2).trans rfl; have hcz6_3 : w5.cell? ⟨gb233, 3, none⟩ = some (.bool a0_3) := (blk_cell BK233.out 3).trans rfl; have hcz6_4 : w5.cell? ⟨gb233, 4, none⟩ = some (.int .i64 a0_4) := (blk_cell BK233.out 4).trans rfl; have hcz6_5 : w5.cell? ⟨gb233, 5, none⟩ = some (.int .i64 a0_5) := (blk_cell BK233.out 5).trans rfl; have hfz6_0 := blk_frozen BK233.out 0; have hfz6_1 := blk_frozen BK233.out 1; have hfz6_2 := blk_frozen BK233.out 2; have hfz6_3 := blk_frozen BK233.out 3; have hfz6_4 := blk_frozen BK233.out 4; have hfz6_5 := blk_frozen BK233.out 5) | ((with_reducible refine gate_callee (f := 13) rfl ?_); refine goesL_ (some 9) rfl rfl Tryd.func13 (by kernel_rfl) rfl #[.agg #[.slice A0_0 l0_0.length c0_0, .int .i64 a0_1, .slice A0_2 l0_2.length c0_2, .bool a0_3, .int .i64 a0_4, .int .i64 a0_5]] rfl qa_ ?_; (with_reducible refine (letterboxref15_Check.calls k _ _ l0_0 a0_1 _ _ l0_2 a0_3 a0_4 a0_5 t234 _ ?side1 ?side2 ?side3 ?side4 A3.out).mono ?_); (case side1 => repeat (first | exact (Kd.C_below HR0_0.out HB.out) | (with_reducible refine Kd.C_alloc ?_ _) | (with_reducible refine Kd.C_drewN ?_ _) | (with_reducible refine Kd.C_drew ?_))); (case side2 => exact HC0_0.out); (case side3 => repeat (first | exact (Kd.C_below HR0_2.out HB.out) | (with_reducible refine Kd.C_alloc ?_ _) | (with_reducible refine Kd.C_drewN ?_ _) | (with_reducible refine Kd.C_drew ?_))); (case side4 => exact HC0_2.out); rintro e w7 ⟨rfl, hb⟩; refine ⟨_, rfl, ?_⟩; have n0_ := Aside0.mk (blk_below (g := gb233) (o := .cells #[.slice A0_0 l0_0.length c0_0, .int .i64 a0_1, .slice A0_2 l0_2.length c0_2, .bool a0_3, .int .i64 a0_4, .int .i64 a0_5] 30 (0, 0)) (qk_ BK233.out) hb); have n1_ := Aside0.mk (below_step (qb_ HB.out) hb); clear BK233; clear HB; have BK233 := n0_; have HB := n1_; clear n0_ n1_; (try clear hb); (try clear hb2); (try clear hk); (try clear hi)))
  go_loopg [5, 6] k (fun kq v5 v6 w' => ∃ (x5_1 : ByteArray) (x6_1 : Int), v5 = .string x5_1 ∧ v6 = .int .i64 x6_1 ∧ Aside0 (letterboxref15_Put.l0 kq a1 x5_1 x6_1 l0_0 a0_1 l0_2 a0_3 a0_4 a0_5 = some r) ∧ Aside0 (kq ≤ k) ∧ Aside0 (w'.heap[gb233]? = some (.cells #[(.slice A0_0 l0_0.length c0_0), .int .i64 a0_1, (.slice A0_2 l0_2.length c0_2), .bool a0_3, .int .i64 a0_4, .int .i64 a0_5] 30 (0, 0))) ∧ Aside0 (Below w.heap.size w w'))
  case atStart => exact ⟨((⟨#[91]⟩ : ByteArray)), (0), qr_, qr_, H', ⟨Nat.le_refl _⟩, ⟨qk_ BK233.out⟩, ⟨qb_ HB.out⟩⟩
  case round =>
   clear H'
   obtain ⟨x5_1, x6_1, rfl, rfl, HA, HK1, BK233, HB⟩ := hrel
   cases gk with
   | zero => exact absurd HA.out (by simp [letterboxref15_Put.l0])
   | succ k1 =>
    have H := HA.out
    clear HA
    simp only [letterboxref15_Put.l0] at H
    by_cases c8 : x6_1 < (l0_0.length : Int)
    ·rw [if_pos c8] at H
     have c8b0 : decide (x6_1 < (l0_0.length : Int)) = true := decide_eq_true c8
     clear c8
     by_cases c9 : x6_1 > 0
     ·rw [if_pos c9] at H
      have c9b0 : decide (0 < x6_1) = true := decide_eq_true c9
      clear c9
      by_cases c10 : x5_1.size + 1 ≤ 9223372036854775807
      ·rw [if_pos c10] at H
       have c10b0 := eq_true c10
       have c10b1 : decide (x5_1.size + 1 ≤ 9223372036854775807) = true := decide_eq_true c10
       try have c10b2 : (9223372036854775807 < x5_1.size + 1) = False := eq_false (Nat.not_lt.2 c10)
       by_cases c11 : 0 ≤ x6_1
       ·rw [if_pos c11] at H
        have c11b0 : decide (0 ≤ x6_1) = true := decide_eq_true c11
        clear c11
        replace H := Option.bind_eq_some_iff.mp H
        obtain ⟨t236, A120, H⟩ := H
        replace H : (if (x5_1 ++ (⟨#[46]⟩ : ByteArray)).size + t236.size ≤ 9223372036854775807 then (letterboxref15_Put.l0 k1 a1 ((x5_1 ++ (⟨#[46]⟩ : ByteArray)) ++ t236) (wrap64 (x6_1 + 1)) l0_0 a0_1 l0_2 a0_3 a0_4 a0_5) else (none)) = some r := H
        have A12 := Aside0.mk A120
        clear A120
        by_cases c13 : (x5_1 ++ (⟨#[46]⟩ : ByteArray)).size + t236.size ≤ 9223372036854775807
        ·rw [if_pos c13] at H
         have c13b0 := eq_true c13
         have c13b1 : decide ((x5_1 ++ (⟨#[46]⟩ : ByteArray)).size + t236.size ≤ 9223372036854775807) = true := decide_eq_true c13
         try have c13b2 : (9223372036854775807 < (x5_1 ++ (⟨#[46]⟩ : ByteArray)).size + t236.size) = False := eq_false (Nat.not_lt.2 c13)
         try have c13b4 : (9223372036854775807 < x5_1.size + 1 + t236.size) = False := eq_false (Nat.not_lt.2 (by have h_ := c13; simp only [ByteArray.size_append] at h_; exact h_))
         have H' := Aside0.mk H
         clear H
         obtain ⟨hcz14_0, hcz14_1, hcz14_2, hcz14_3, hcz14_4, hcz14_5, hfz14_0, hfz14_1, hfz14_2, hfz14_3, hfz14_4, hfz14_5⟩ := cz6_ BK233.out
         have p235 : 0 ≤ (x6_1 : Int) := qd_
         have q235 : x6_1 < (l0_0.length : Int) := qd_
         obtain ⟨ad235, e235, hx235_0⟩ := Kd.at_int HR0_0.out x6_1 p235 q235
         cases e235
         replace hx235_0 := (HB.out.cell (World.block_lt_of_cell? w _ hx235_0)).trans hx235_0
         replace p235 := eq_true p235
         replace q235 := eq_true q235
         go_wp2_with (first | ((with_reducible refine gate_callee (f := 16) rfl ?_); refine goesL_ (some 28) rfl rfl Tryd.func16 (by kernel_rfl) rfl #[.int .i64 (rd l0_0 x6_1)] rfl qa_ ?_; (with_reducible refine (letterboxref01_Digits.calls k1 (rd l0_0 x6_1) t236 _ A12.out).mono ?_); rintro e w15 ⟨rfl, hb⟩; refine ⟨_, rfl, ?_⟩; have n0_ := Aside0.mk (blk_below (g := gb233) (o := .cells #[.slice (some ad235) l0_0.length c0_0, .int .i64 a0_1, .slice A0_2 l0_2.length c0_2, .bool a0_3, .int .i64 a0_4, .int .i64 a0_5] 30 (0, 0)) (qk_ BK233.out) hb); have n1_ := Aside0.mk (below_step (qb_ HB.out) hb); clear BK233; clear HB; have BK233 := n0_; have HB := n1_; clear n0_ n1_; (try clear hb); (try clear hb2); (try clear hk); (try clear hi)))
         go_roundg k1
         case measure => have := HK1.out; omega
         case rel => exact ⟨((x5_1 ++ (⟨#[46]⟩ : ByteArray)) ++ t236), (wrap64 (x6_1 + 1)), qr_, qr_, H', ⟨by have := HK1.out; omega⟩, ⟨qk_ BK233.out⟩, ⟨qb_ HB.out⟩⟩
        ·rw [if_neg c13] at H
         exact absurd H (by simp)
       ·rw [if_neg c11] at H
        exact absurd H (by simp)
      ·rw [if_neg c10] at H
       exact absurd H (by simp)
     ·rw [if_neg c9] at H
      have c9b0 : decide (0 < x6_1) = false := decide_eq_false c9
      clear c9
      by_cases c16 : 0 ≤ x6_1
      ·rw [if_pos c16] at H
       have c16b0 : decide (0 ≤ x6_1) = true := decide_eq_true c16
       clear c16
       replace H := Option.bind_eq_some_iff.mp H
       obtain ⟨t238, A170, H⟩ := H
       replace H : (if x5_1.size + t238.size ≤ 9223372036854775807 then (letterboxref15_Put.l0 k1 a1 (x5_1 ++ t238) (wrap64 (x6_1 + 1)) l0_0 a0_1 l0_2 a0_3 a0_4 a0_5) else (none)) = some r := H
       have A17 := Aside0.mk A170
       clear A170
       by_cases c18 : x5_1.size + t238.size ≤ 9223372036854775807
       ·rw [if_pos c18] at H
        have c18b0 := eq_true c18
        have c18b1 : decide (x5_1.size + t238.size ≤ 9223372036854775807) = true := decide_eq_true c18
        try have c18b2 : (9223372036854775807 < x5_1.size + t238.size) = False := eq_false (Nat.not_lt.2 c18)
        have H' := Aside0.mk H
        clear H
        obtain ⟨hcz19_0, hcz19_1, hcz19_2, hcz19_3, hcz19_4, hcz19_5, hfz19_0, hfz19_1, hfz19_2, hfz19_3, hfz19_4, hfz19_5⟩ := cz6_ BK233.out
        have p237 : 0 ≤ (x6_1 : Int) := qd_
        have q237 : x6_1 < (l0_0.length : Int) := qd_
        obtain ⟨ad237, e237, hx237_0⟩ := Kd.at_int HR0_0.out x6_1 p237 q237
        cases e237
        replace hx237_0 := (HB.out.cell (World.block_lt_of_cell? w _ hx237_0)).trans hx237_0
        replace p237 := eq_true p237
        replace q237 := eq_true q237
        go_wp2_with (first | ((with_reducible refine gate_callee (f := 16) rfl ?_); refine goesL_ (some 28) rfl rfl Tryd.func16 (by kernel_rfl) rfl #[.int .i64 (rd l0_0 x6_1)] rfl qa_ ?_; (with_reducible refine (letterboxref01_Digits.calls k1 (rd l0_0 x6_1) t238 _ A17.out).mono ?_); rintro e w20 ⟨rfl, hb⟩; refine ⟨_, rfl, ?_⟩; have n0_ := Aside0.mk (blk_below (g := gb233) (o := .cells #[.slice (some ad237) l0_0.length c0_0, .int .i64 a0_1, .slice A0_2 l0_2.length c0_2, .bool a0_3, .int .i64 a0_4, .int .i64 a0_5] 30 (0, 0)) (qk_ BK233.out) hb); have n1_ := Aside0.mk (below_step (qb_ HB.out) hb); clear BK233; clear HB; have BK233 := n0_; have HB := n1_; clear n0_ n1_; (try clear hb); (try clear hb2); (try clear hk); (try clear hi)))
        go_roundg k1
        case measure => have := HK1.out; omega
        case rel => exact ⟨(x5_1 ++ t238), (wrap64 (x6_1 + 1)), qr_, qr_, H', ⟨by have := HK1.out; omega⟩, ⟨qk_ BK233.out⟩, ⟨qb_ HB.out⟩⟩
       ·rw [if_neg c18] at H
        exact absurd H (by simp)
      ·rw [if_neg c16] at H
       exact absurd H (by simp)
    ·rw [if_neg c8] at H
     have c8b0 : decide (x6_1 < (l0_0.length : Int)) = false := decide_eq_false c8
     clear c8
     have HC21 := Aside0.mk H
     clear H
     obtain ⟨hcz22_0, hcz22_1, hcz22_2, hcz22_3, hcz22_4, hcz22_5, hfz22_0, hfz22_1, hfz22_2, hfz22_3, hfz22_4, hfz22_5⟩ := cz6_ BK233.out
     go_upto_region 10 with (fail)
     go_cut [38] (fun v38 wc => ∃ (kq : Nat) (x38_20 : Bool), v38 = .bool x38_20 ∧ Aside0 (letterboxref15_Put.j1 kq a1 x5_1 x38_20 l0_0 a0_1 l0_2 a0_3 a0_4 a0_5 = some r) ∧ Aside0 (kq ≤ k1) ∧ Aside0 (wc.heap[gb233]? = some (.cells #[(.slice A0_0 l0_0.length c0_0), .int .i64 a0_1, (.slice A0_2 l0_2.length c0_2), .bool a0_3, .int .i64 a0_4, .int .i64 a0_5] 30 (0, 0))) ∧ Aside0 (Below w.heap.size w wc))
     case first =>
      have H := HC21.out
      clear HC21
      by_cases c23 : (l0_0.length : Int) > 0
      ·rw [if_pos c23] at H
       have c23b0 : decide (0 < (l0_0.length : Int)) = true := decide_eq_true c23
       have c23b1 : decide (0 < l0_0.length) = true := decide_eq_true (by omega)
       clear c23
       (first | rw [c23b0] | rw [c23b1] | (simp only [i64_w, i32_w]; rw [c23b0]) | skip)
       have H' := Aside0.mk H
       clear H
       obtain ⟨hcz24_0, hcz24_1, hcz24_2, hcz24_3, hcz24_4, hcz24_5, hfz24_0, hfz24_1, hfz24_2, hfz24_3, hfz24_4, hfz24_5⟩ := cz6_ BK233.out
       go_wp2
       go_meet
       case rel => exact ⟨_, ((a0_1 != 0)), qr_, H', ⟨by have := HK1.out; first | omega | exact Nat.le_refl _⟩, ⟨qk_ BK233.out⟩, ⟨qb_ HB.out⟩⟩
      ·rw [if_neg c23] at H
       have c23b0 : decide (0 < (l0_0.length : Int)) = false := decide_eq_false c23
       have c23b1 : decide (0 < l0_0.length) = false := decide_eq_false (by omega)
       clear c23
       (first | rw [c23b0] | rw [c23b1] | (simp only [i64_w, i32_w]; rw [c23b0]) | skip)
       have H' := Aside0.mk H
       clear H
       obtain ⟨hcz25_0, hcz25_1, hcz25_2, hcz25_3, hcz25_4, hcz25_5, hfz25_0, hfz25_1, hfz25_2, hfz25_3, hfz25_4, hfz25_5⟩ := cz6_ BK233.out
       go_wp2
       go_meet
       case rel => exact ⟨_, (false), qr_, H', ⟨by have := HK1.out; first | omega | exact Nat.le_refl _⟩, ⟨qk_ BK233.out⟩, ⟨qb_ HB.out⟩⟩
     case rest =>
      clear HC21
      obtain ⟨kq, x38_20, rfl, HA, HJ20, BK233, HB⟩ := hcut
      cases kq with
      | zero => exact absurd HA.out (by simp [letterboxref15_Put.j1])
      | succ kj20 =>
       have H := HA.out
       clear HA
       simp only [letterboxref15_Put.j1] at H
       have HC26 := Aside0.mk H
       clear H
       go_upto_if 38 with (fail)
       go_cut [5] (fun v5 wc => ∃ (kq : Nat) (x5_25 : ByteArray), v5 = .string x5_25 ∧ Aside0 (letterboxref15_Put.j2 kq a1 x5_25 l0_0 a0_1 l0_2 a0_3 a0_4 a0_5 = some r) ∧ Aside0 (kq ≤ kj20) ∧ Aside0 (wc.heap[gb233]? = some (.cells #[(.slice A0_0 l0_0.length c0_0), .int .i64 a0_1, (.slice A0_2 l0_2.length c0_2), .bool a0_3, .int .i64 a0_4, .int .i64 a0_5] 30 (0, 0))) ∧ Aside0 (Below w.heap.size w wc))
       case first =>
        have H := HC26.out
        clear HC26
        by_cases c27 : x38_20 = true
        ·subst c27
         have H1 : (if x5_1.size + 1 ≤ 9223372036854775807 then (letterboxref15_Put.j2 kj20 a1 (x5_1 ++ (⟨#[46]⟩ : ByteArray)) l0_0 a0_1 l0_2 a0_3 a0_4 a0_5) else (none)) = some r := by rw [if_pos rfl] at H; exact H
         clear H
         have H := H1
         clear H1
         by_cases c28 : x5_1.size + 1 ≤ 9223372036854775807
         ·rw [if_pos c28] at H
          have c28b0 := eq_true c28
          have c28b1 : decide (x5_1.size + 1 ≤ 9223372036854775807) = true := decide_eq_true c28
          try have c28b2 : (9223372036854775807 < x5_1.size + 1) = False := eq_false (Nat.not_lt.2 c28)
          have H' := Aside0.mk H
          clear H
          go_wp2
          go_meet
          case rel => exact ⟨_, (x5_1 ++ (⟨#[46]⟩ : ByteArray)), qr_, H', ⟨by have := HK1.out; have := HJ20.out; first | omega | exact Nat.le_refl _⟩, ⟨qk_ BK233.out⟩, ⟨qb_ HB.out⟩⟩
         ·rw [if_neg c28] at H
          exact absurd H (by simp)
        ·replace c27 := Bool.eq_false_iff.mpr c27
         subst c27
         have H1 : (letterboxref15_Put.j2 kj20 a1 x5_1 l0_0 a0_1 l0_2 a0_3 a0_4 a0_5) = some r := by rw [if_neg (show ¬ (false = true) by decide)] at H; exact H
         clear H
         have H := H1
         clear H1
         have H' := Aside0.mk H
         clear H
         go_wp2
         go_meet
         case rel => exact ⟨_, (x5_1), qr_, H', ⟨by have := HK1.out; have := HJ20.out; first | omega | exact Nat.le_refl _⟩, ⟨qk_ BK233.out⟩, ⟨qb_ HB.out⟩⟩
       case rest =>
        clear HC26
        obtain ⟨kq, x5_25, rfl, HA, HJ25, BK233, HB⟩ := hcut
        cases kq with
        | zero => exact absurd HA.out (by simp [letterboxref15_Put.j2])
        | succ kj25 =>
         have H := HA.out
         clear HA
         simp only [letterboxref15_Put.j2] at H
         replace H := Option.bind_eq_some_iff.mp H
         obtain ⟨t239, A290, H⟩ := H
         replace H : (if x5_25.size + t239.size ≤ 9223372036854775807 then (letterboxref15_Put.l1 kj25 a1 (x5_25 ++ t239) 0 l0_0 a0_1 l0_2 a0_3 a0_4 a0_5) else (none)) = some r := H
         have A29 := Aside0.mk A290
         clear A290
         by_cases c30 : x5_25.size + t239.size ≤ 9223372036854775807
         ·rw [if_pos c30] at H
          have c30b0 := eq_true c30
          have c30b1 : decide (x5_25.size + t239.size ≤ 9223372036854775807) = true := decide_eq_true c30
          try have c30b2 : (9223372036854775807 < x5_25.size + t239.size) = False := eq_false (Nat.not_lt.2 c30)
          have H' := Aside0.mk H
          clear H
          obtain ⟨hcz31_0, hcz31_1, hcz31_2, hcz31_3, hcz31_4, hcz31_5, hfz31_0, hfz31_1, hfz31_2, hfz31_3, hfz31_4, hfz31_5⟩ := cz6_ BK233.out
          go_wp2_with (first | ((with_reducible refine gate_callee (f := 34) rfl ?_); refine goesL_ (some 44) rfl rfl Tryd.func34 (by kernel_rfl) rfl #[.int .i64 a0_1] rfl qa_ ?_; (with_reducible refine (letterboxref15_word.calls a0_1 t239 _ A29.out).mono ?_); rintro e w32 ⟨rfl, hb⟩; refine ⟨_, rfl, ?_⟩; have n0_ := Aside0.mk (blk_below (g := gb233) (o := .cells #[.slice A0_0 l0_0.length c0_0, .int .i64 a0_1, .slice A0_2 l0_2.length c0_2, .bool a0_3, .int .i64 a0_4, .int .i64 a0_5] 30 (0, 0)) (qk_ BK233.out) hb); have n1_ := Aside0.mk (below_step (qb_ HB.out) hb); clear BK233; clear HB; have BK233 := n0_; have HB := n1_; clear n0_ n1_; (try clear hb); (try clear hb2); (try clear hk); (try clear hi)))
          go_loopg [5, 7] kj25 (fun kq v5 v7 w' => ∃ (x5_4 : ByteArray) (x7_4 : Int), v5 = .string x5_4 ∧ v7 = .int .i64 x7_4 ∧ Aside0 (letterboxref15_Put.l1 kq a1 x5_4 x7_4 l0_0 a0_1 l0_2 a0_3 a0_4 a0_5 = some r) ∧ Aside0 (kq ≤ kj25) ∧ Aside0 (w'.heap[gb233]? = some (.cells #[(.slice A0_0 l0_0.length c0_0), .int .i64 a0_1, (.slice A0_2 l0_2.length c0_2), .bool a0_3, .int .i64 a0_4, .int .i64 a0_5] 30 (0, 0))) ∧ Aside0 (Below w.heap.size w w'))
          case atStart => exact ⟨(x5_25 ++ t239), (0), qr_, qr_, H', ⟨Nat.le_refl _⟩, ⟨qk_ BK233.out⟩, ⟨qb_ HB.out⟩⟩
          case round =>
           clear H'
           (try clear c30)
           obtain ⟨x5_4, x7_4, rfl, rfl, HA, HK4, BK233, HB⟩ := hrel
           cases gk with
           | zero => exact absurd HA.out (by simp [letterboxref15_Put.l1])
           | succ k4 =>
            have H := HA.out
            clear HA
            simp only [letterboxref15_Put.l1] at H
            by_cases c33 : x7_4 < (l0_2.length : Int)
            ·rw [if_pos c33] at H
             have c33b0 : decide (x7_4 < (l0_2.length : Int)) = true := decide_eq_true c33
             clear c33
             by_cases c34 : x7_4 = 0
             ·rw [if_pos c34] at H
              have c34b0 : (x7_4 == 0) = true := beq_iff_eq.mpr c34
              have c34b1 : (x7_4 != 0) = false := bne_eq_false_iff_eq.mpr c34
              clear c34
              by_cases c35 : x5_4.size + 2 ≤ 9223372036854775807
              ·rw [if_pos c35] at H
               have c35b0 := eq_true c35
               have c35b1 : decide (x5_4.size + 2 ≤ 9223372036854775807) = true := decide_eq_true c35
               try have c35b2 : (9223372036854775807 < x5_4.size + 2) = False := eq_false (Nat.not_lt.2 c35)
               by_cases c36 : 0 ≤ x7_4
               ·rw [if_pos c36] at H
                have c36b0 : decide (0 ≤ x7_4) = true := decide_eq_true c36
                clear c36
                replace H := Option.bind_eq_some_iff.mp H
                obtain ⟨t241, A370, H⟩ := H
                replace H : (if (x5_4 ++ (⟨#[32, 40]⟩ : ByteArray)).size + t241.size ≤ 9223372036854775807 then (letterboxref15_Put.l1 k4 a1 ((x5_4 ++ (⟨#[32, 40]⟩ : ByteArray)) ++ t241) (wrap64 (x7_4 + 1)) l0_0 a0_1 l0_2 a0_3 a0_4 a0_5) else (none)) = some r := H
                have A37 := Aside0.mk A370
                clear A370
                by_cases c38 : (x5_4 ++ (⟨#[32, 40]⟩ : ByteArray)).size + t241.size ≤ 9223372036854775807
                ·rw [if_pos c38] at H
                 have c38b0 := eq_true c38
                 have c38b1 : decide ((x5_4 ++ (⟨#[32, 40]⟩ : ByteArray)).size + t241.size ≤ 9223372036854775807) = true := decide_eq_true c38
                 try have c38b2 : (9223372036854775807 < (x5_4 ++ (⟨#[32, 40]⟩ : ByteArray)).size + t241.size) = False := eq_false (Nat.not_lt.2 c38)
                 try have c38b4 : (9223372036854775807 < x5_4.size + 2 + t241.size) = False := eq_false (Nat.not_lt.2 (by have h_ := c38; simp only [ByteArray.size_append] at h_; exact h_))
                 have H' := Aside0.mk H
                 clear H
                 obtain ⟨hcz39_0, hcz39_1, hcz39_2, hcz39_3, hcz39_4, hcz39_5, hfz39_0, hfz39_1, hfz39_2, hfz39_3, hfz39_4, hfz39_5⟩ := cz6_ BK233.out
                 have p240 : 0 ≤ (x7_4 : Int) := qd_
                 have q240 : x7_4 < (l0_2.length : Int) := qd_
                 obtain ⟨ad240, e240, hx240_0⟩ := Kd.at_string HR0_2.out x7_4 p240 q240
                 cases e240
                 replace hx240_0 := (HB.out.cell (World.block_lt_of_cell? w _ hx240_0)).trans hx240_0
                 replace p240 := eq_true p240
                 replace q240 := eq_true q240
                 go_wp2_with (first | ((with_reducible refine gate_callee (f := 35) rfl ?_); refine goesL_ (some 65) rfl rfl Tryd.func35 (by kernel_rfl) rfl #[.string (rdOf ByteArray.empty l0_2 x7_4)] rfl qa_ ?_; (with_reducible refine (letterboxref15_name.calls k4 (rdOf ByteArray.empty l0_2 x7_4) t241 _ A37.out).mono ?_); rintro e w' ⟨rfl, ⟨nd, rfl⟩⟩; refine ⟨_, rfl, ?_⟩))
                 go_roundg k4
                 case measure => have := HK1.out; have := HJ20.out; have := HJ25.out; have := HK4.out; omega
                 case rel => exact ⟨((x5_4 ++ (⟨#[32, 40]⟩ : ByteArray)) ++ t241), (wrap64 (x7_4 + 1)), qr_, qr_, H', ⟨by have := HK1.out; have := HJ20.out; have := HJ25.out; have := HK4.out; omega⟩, ⟨qk_ BK233.out⟩, ⟨qb_ HB.out⟩⟩
                ·rw [if_neg c38] at H
                 exact absurd H (by simp)
               ·rw [if_neg c36] at H
                exact absurd H (by simp)
              ·rw [if_neg c35] at H
               exact absurd H (by simp)
             ·rw [if_neg c34] at H
              have c34b0 : (x7_4 == 0) = false := beq_eq_false_iff_ne.mpr c34
              have c34b1 : (x7_4 != 0) = true := bne_iff_ne.mpr c34
              by_cases c40 : x5_4.size + 1 ≤ 9223372036854775807
              ·rw [if_pos c40] at H
               have c40b0 := eq_true c40
               have c40b1 : decide (x5_4.size + 1 ≤ 9223372036854775807) = true := decide_eq_true c40
               try have c40b2 : (9223372036854775807 < x5_4.size + 1) = False := eq_false (Nat.not_lt.2 c40)
               by_cases c41 : 0 ≤ x7_4
               ·rw [if_pos c41] at H
                have c41b0 : decide (0 ≤ x7_4) = true := decide_eq_true c41
                clear c41
                replace H := Option.bind_eq_some_iff.mp H
                obtain ⟨t243, A420, H⟩ := H
                replace H : (if (x5_4 ++ (⟨#[32]⟩ : ByteArray)).size + t243.size ≤ 9223372036854775807 then (letterboxref15_Put.l1 k4 a1 ((x5_4 ++ (⟨#[32]⟩ : ByteArray)) ++ t243) (wrap64 (x7_4 + 1)) l0_0 a0_1 l0_2 a0_3 a0_4 a0_5) else (none)) = some r := H
                have A42 := Aside0.mk A420
                clear A420
                by_cases c43 : (x5_4 ++ (⟨#[32]⟩ : ByteArray)).size + t243.size ≤ 9223372036854775807
                ·rw [if_pos c43] at H
                 have c43b0 := eq_true c43
                 have c43b1 : decide ((x5_4 ++ (⟨#[32]⟩ : ByteArray)).size + t243.size ≤ 9223372036854775807) = true := decide_eq_true c43
                 try have c43b2 : (9223372036854775807 < (x5_4 ++ (⟨#[32]⟩ : ByteArray)).size + t243.size) = False := eq_false (Nat.not_lt.2 c43)
                 try have c43b4 : (9223372036854775807 < x5_4.size + 1 + t243.size) = False := eq_false (Nat.not_lt.2 (by have h_ := c43; simp only [ByteArray.size_append] at h_; exact h_))
                 have H' := Aside0.mk H
                 clear H
                 obtain ⟨hcz44_0, hcz44_1, hcz44_2, hcz44_3, hcz44_4, hcz44_5, hfz44_0, hfz44_1, hfz44_2, hfz44_3, hfz44_4, hfz44_5⟩ := cz6_ BK233.out
                 have p242 : 0 ≤ (x7_4 : Int) := qd_
                 have q242 : x7_4 < (l0_2.length : Int) := qd_
                 obtain ⟨ad242, e242, hx242_0⟩ := Kd.at_string HR0_2.out x7_4 p242 q242
                 cases e242
                 replace hx242_0 := (HB.out.cell (World.block_lt_of_cell? w _ hx242_0)).trans hx242_0
                 replace p242 := eq_true p242
                 replace q242 := eq_true q242
                 go_wp2_with (first | ((with_reducible refine gate_callee (f := 35) rfl ?_); refine goesL_ (some 65) rfl rfl Tryd.func35 (by kernel_rfl) rfl #[.string (rdOf ByteArray.empty l0_2 x7_4)] rfl qa_ ?_; (with_reducible refine (letterboxref15_name.calls k4 (rdOf ByteArray.empty l0_2 x7_4) t243 _ A42.out).mono ?_); rintro e w' ⟨rfl, ⟨nd, rfl⟩⟩; refine ⟨_, rfl, ?_⟩))
                 go_roundg k4
                 case measure => have := HK1.out; have := HJ20.out; have := HJ25.out; have := HK4.out; omega
                 case rel => exact ⟨((x5_4 ++ (⟨#[32]⟩ : ByteArray)) ++ t243), (wrap64 (x7_4 + 1)), qr_, qr_, H', ⟨by have := HK1.out; have := HJ20.out; have := HJ25.out; have := HK4.out; omega⟩, ⟨qk_ BK233.out⟩, ⟨qb_ HB.out⟩⟩
                ·rw [if_neg c43] at H
                 exact absurd H (by simp)
               ·rw [if_neg c41] at H
                exact absurd H (by simp)
              ·rw [if_neg c40] at H
               exact absurd H (by simp)
            ·rw [if_neg c33] at H
             have c33b0 : decide (x7_4 < (l0_2.length : Int)) = false := decide_eq_false c33
             clear c33
             have HC45 := Aside0.mk H
             clear H
             obtain ⟨hcz46_0, hcz46_1, hcz46_2, hcz46_3, hcz46_4, hcz46_5, hfz46_0, hfz46_1, hfz46_2, hfz46_3, hfz46_4, hfz46_5⟩ := cz6_ BK233.out
             go_upto_if 70 with (fail)
             go_cut [5] (fun v5 wc => ∃ (kq : Nat) (x5_44 : ByteArray), v5 = .string x5_44 ∧ Aside0 (letterboxref15_Put.j4 kq a1 x5_44 l0_0 a0_1 l0_2 a0_3 a0_4 a0_5 = some r) ∧ Aside0 (kq ≤ k4) ∧ Aside0 (wc.heap[gb233]? = some (.cells #[(.slice A0_0 l0_0.length c0_0), .int .i64 a0_1, (.slice A0_2 l0_2.length c0_2), .bool a0_3, .int .i64 a0_4, .int .i64 a0_5] 30 (0, 0))) ∧ Aside0 (Below w.heap.size w wc))
             case first =>
              have H := HC45.out
              clear HC45
              by_cases c47 : (l0_2.length : Int) > 0
              ·rw [if_pos c47] at H
               have c47b0 : decide (0 < (l0_2.length : Int)) = true := decide_eq_true c47
               have c47b1 : decide (0 < l0_2.length) = true := decide_eq_true (by omega)
               clear c47
               (first | rw [c47b0] | rw [c47b1] | (simp only [i64_w, i32_w]; rw [c47b0]) | skip)
               by_cases c48 : x5_4.size + 1 ≤ 9223372036854775807
               ·rw [if_pos c48] at H
                have c48b0 := eq_true c48
                have c48b1 : decide (x5_4.size + 1 ≤ 9223372036854775807) = true := decide_eq_true c48
                try have c48b2 : (9223372036854775807 < x5_4.size + 1) = False := eq_false (Nat.not_lt.2 c48)
                have H' := Aside0.mk H
                clear H
                go_wp2
                go_meet
                case rel => exact ⟨_, (x5_4 ++ (⟨#[41]⟩ : ByteArray)), qr_, H', ⟨by have := HK1.out; have := HJ20.out; have := HJ25.out; have := HK4.out; first | omega | exact Nat.le_refl _⟩, ⟨qk_ BK233.out⟩, ⟨qb_ HB.out⟩⟩
               ·rw [if_neg c48] at H
                exact absurd H (by simp)
              ·rw [if_neg c47] at H
               have c47b0 : decide (0 < (l0_2.length : Int)) = false := decide_eq_false c47
               have c47b1 : decide (0 < l0_2.length) = false := decide_eq_false (by omega)
               clear c47
               (first | rw [c47b0] | rw [c47b1] | (simp only [i64_w, i32_w]; rw [c47b0]) | skip)
               have H' := Aside0.mk H
               clear H
               go_wp2
               go_meet
               case rel => exact ⟨_, (x5_4), qr_, H', ⟨by have := HK1.out; have := HJ20.out; have := HJ25.out; have := HK4.out; first | omega | exact Nat.le_refl _⟩, ⟨qk_ BK233.out⟩, ⟨qb_ HB.out⟩⟩
             case rest =>
              clear HC45
              obtain ⟨kq, x5_44, rfl, HA, HJ44, BK233, HB⟩ := hcut
              cases kq with
              | zero => exact absurd HA.out (by simp [letterboxref15_Put.j4])
              | succ kj44 =>
               have H := HA.out
               clear HA
               simp only [letterboxref15_Put.j4] at H
               by_cases c49 : x5_44.size + 1 ≤ 9223372036854775807
               ·rw [if_pos c49] at H
                have c49b0 := eq_true c49
                have c49b1 : decide (x5_44.size + 1 ≤ 9223372036854775807) = true := decide_eq_true c49
                try have c49b2 : (9223372036854775807 < x5_44.size + 1) = False := eq_false (Nat.not_lt.2 c49)
                by_cases c50 : a0_3 = true
                ·subst c50
                 have H1 : ((letterboxref01_Digits.f kj44 a0_4).bind fun t244 => (if 1 + t244.size ≤ 9223372036854775807 then (if (x5_44 ++ (⟨#[93]⟩ : ByteArray)).size + ((⟨#[60]⟩ : ByteArray) ++ t244).size ≤ 9223372036854775807 then (if a1 = true then (if ((x5_44 ++ (⟨#[93]⟩ : ByteArray)) ++ ((⟨#[60]⟩ : ByteArray) ++ t244)).size + 1 ≤ 9223372036854775807 then (some (((x5_44 ++ (⟨#[93]⟩ : ByteArray)) ++ ((⟨#[60]⟩ : ByteArray) ++ t244)) ++ (⟨#[62]⟩ : ByteArray))) else (none)) else ((letterboxref01_Digits.f kj44 a0_5).bind fun t245 => (if 1 + t245.size ≤ 9223372036854775807 then (if ((x5_44 ++ (⟨#[93]⟩ : ByteArray)) ++ ((⟨#[60]⟩ : ByteArray) ++ t244)).size + ((⟨#[46]⟩ : ByteArray) ++ t245).size ≤ 9223372036854775807 then (if (((x5_44 ++ (⟨#[93]⟩ : ByteArray)) ++ ((⟨#[60]⟩ : ByteArray) ++ t244)) ++ ((⟨#[46]⟩ : ByteArray) ++ t245)).size + 1 ≤ 9223372036854775807 then (some ((((x5_44 ++ (⟨#[93]⟩ : ByteArray)) ++ ((⟨#[60]⟩ : ByteArray) ++ t244)) ++ ((⟨#[46]⟩ : ByteArray) ++ t245)) ++ (⟨#[62]⟩ : ByteArray))) else (none)) else (none)) else (none)))) else (none)) else (none))) = some r := by rw [if_pos rfl] at H; exact H
                 clear H
                 have H := H1
                 clear H1
                 replace H := Option.bind_eq_some_iff.mp H
                 obtain ⟨t244, A510, H⟩ := H
                 replace H : (if 1 + t244.size ≤ 9223372036854775807 then (if (x5_44 ++ (⟨#[93]⟩ : ByteArray)).size + ((⟨#[60]⟩ : ByteArray) ++ t244).size ≤ 9223372036854775807 then (if a1 = true then (if ((x5_44 ++ (⟨#[93]⟩ : ByteArray)) ++ ((⟨#[60]⟩ : ByteArray) ++ t244)).size + 1 ≤ 9223372036854775807 then (some (((x5_44 ++ (⟨#[93]⟩ : ByteArray)) ++ ((⟨#[60]⟩ : ByteArray) ++ t244)) ++ (⟨#[62]⟩ : ByteArray))) else (none)) else ((letterboxref01_Digits.f kj44 a0_5).bind fun t245 => (if 1 + t245.size ≤ 9223372036854775807 then (if ((x5_44 ++ (⟨#[93]⟩ : ByteArray)) ++ ((⟨#[60]⟩ : ByteArray) ++ t244)).size + ((⟨#[46]⟩ : ByteArray) ++ t245).size ≤ 9223372036854775807 then (if (((x5_44 ++ (⟨#[93]⟩ : ByteArray)) ++ ((⟨#[60]⟩ : ByteArray) ++ t244)) ++ ((⟨#[46]⟩ : ByteArray) ++ t245)).size + 1 ≤ 9223372036854775807 then (some ((((x5_44 ++ (⟨#[93]⟩ : ByteArray)) ++ ((⟨#[60]⟩ : ByteArray) ++ t244)) ++ ((⟨#[46]⟩ : ByteArray) ++ t245)) ++ (⟨#[62]⟩ : ByteArray))) else (none)) else (none)) else (none)))) else (none)) else (none)) = some r := H
                 have A51 := Aside0.mk A510
                 clear A510
                 by_cases c52 : 1 + t244.size ≤ 9223372036854775807
                 ·rw [if_pos c52] at H
                  have c52b0 := eq_true c52
                  have c52b1 : decide (1 + t244.size ≤ 9223372036854775807) = true := decide_eq_true c52
                  try have c52b2 : (9223372036854775807 < 1 + t244.size) = False := eq_false (Nat.not_lt.2 c52)
                  by_cases c53 : (x5_44 ++ (⟨#[93]⟩ : ByteArray)).size + ((⟨#[60]⟩ : ByteArray) ++ t244).size ≤ 9223372036854775807
                  ·rw [if_pos c53] at H
                   have c53b0 := eq_true c53
                   have c53b1 : decide ((x5_44 ++ (⟨#[93]⟩ : ByteArray)).size + ((⟨#[60]⟩ : ByteArray) ++ t244).size ≤ 9223372036854775807) = true := decide_eq_true c53
                   try have c53b2 : (9223372036854775807 < (x5_44 ++ (⟨#[93]⟩ : ByteArray)).size + ((⟨#[60]⟩ : ByteArray) ++ t244).size) = False := eq_false (Nat.not_lt.2 c53)
                   try have c53b4 : (9223372036854775807 < x5_44.size + 1 + (1 + t244.size)) = False := eq_false (Nat.not_lt.2 (by have h_ := c53; simp only [ByteArray.size_append] at h_; exact h_))
                   by_cases c54 : a1 = true
                   ·subst c54
                    have H1 : (if ((x5_44 ++ (⟨#[93]⟩ : ByteArray)) ++ ((⟨#[60]⟩ : ByteArray) ++ t244)).size + 1 ≤ 9223372036854775807 then (some (((x5_44 ++ (⟨#[93]⟩ : ByteArray)) ++ ((⟨#[60]⟩ : ByteArray) ++ t244)) ++ (⟨#[62]⟩ : ByteArray))) else (none)) = some r := by rw [if_pos rfl] at H; exact H
                    clear H
                    have H := H1
                    clear H1
                    by_cases c55 : ((x5_44 ++ (⟨#[93]⟩ : ByteArray)) ++ ((⟨#[60]⟩ : ByteArray) ++ t244)).size + 1 ≤ 9223372036854775807
                    ·rw [if_pos c55] at H
                     have c55b0 := eq_true c55
                     have c55b1 : decide (((x5_44 ++ (⟨#[93]⟩ : ByteArray)) ++ ((⟨#[60]⟩ : ByteArray) ++ t244)).size + 1 ≤ 9223372036854775807) = true := decide_eq_true c55
                     try have c55b2 : (9223372036854775807 < ((x5_44 ++ (⟨#[93]⟩ : ByteArray)) ++ ((⟨#[60]⟩ : ByteArray) ++ t244)).size + 1) = False := eq_false (Nat.not_lt.2 c55)
                     try have c55b4 : (9223372036854775807 < x5_44.size + 1 + (1 + t244.size) + 1) = False := eq_false (Nat.not_lt.2 (by have h_ := c55; simp only [ByteArray.size_append] at h_; exact h_))
                     obtain rfl := Option.some.inj H
                     obtain ⟨hcz56_0, hcz56_1, hcz56_2, hcz56_3, hcz56_4, hcz56_5, hfz56_0, hfz56_1, hfz56_2, hfz56_3, hfz56_4, hfz56_5⟩ := cz6_ BK233.out
                     go_wp2_with (first | ((with_reducible refine gate_callee (f := 16) rfl ?_); refine goesL_ (some 80) rfl rfl Tryd.func16 (by kernel_rfl) rfl #[.int .i64 a0_4] rfl qa_ ?_; (with_reducible refine (letterboxref01_Digits.calls kj44 a0_4 t244 _ A51.out).mono ?_); rintro e w57 ⟨rfl, hb⟩; refine ⟨_, rfl, ?_⟩; have n0_ := Aside0.mk (blk_below (g := gb233) (o := .cells #[.slice A0_0 l0_0.length c0_0, .int .i64 a0_1, .slice A0_2 l0_2.length c0_2, .bool true, .int .i64 a0_4, .int .i64 a0_5] 30 (0, 0)) (qk_ BK233.out) hb); have n1_ := Aside0.mk (below_step (qb_ HB.out) hb); clear BK233; clear HB; have BK233 := n0_; have HB := n1_; clear n0_ n1_; (try clear hb); (try clear hb2); (try clear hk); (try clear hi)))
                     go_ret
                     exact ⟨qw_, qb_ HB.out⟩
                    ·rw [if_neg c55] at H
                     exact absurd H (by simp)
                   ·replace c54 := Bool.eq_false_iff.mpr c54
                    subst c54
                    have H1 : ((letterboxref01_Digits.f kj44 a0_5).bind fun t245 => (if 1 + t245.size ≤ 9223372036854775807 then (if ((x5_44 ++ (⟨#[93]⟩ : ByteArray)) ++ ((⟨#[60]⟩ : ByteArray) ++ t244)).size + ((⟨#[46]⟩ : ByteArray) ++ t245).size ≤ 9223372036854775807 then (if (((x5_44 ++ (⟨#[93]⟩ : ByteArray)) ++ ((⟨#[60]⟩ : ByteArray) ++ t244)) ++ ((⟨#[46]⟩ : ByteArray) ++ t245)).size + 1 ≤ 9223372036854775807 then (some ((((x5_44 ++ (⟨#[93]⟩ : ByteArray)) ++ ((⟨#[60]⟩ : ByteArray) ++ t244)) ++ ((⟨#[46]⟩ : ByteArray) ++ t245)) ++ (⟨#[62]⟩ : ByteArray))) else (none)) else (none)) else (none))) = some r := by rw [if_neg (show ¬ (false = true) by decide)] at H; exact H
                    clear H
                    have H := H1
                    clear H1
                    replace H := Option.bind_eq_some_iff.mp H
                    obtain ⟨t245, A580, H⟩ := H
                    replace H : (if 1 + t245.size ≤ 9223372036854775807 then (if ((x5_44 ++ (⟨#[93]⟩ : ByteArray)) ++ ((⟨#[60]⟩ : ByteArray) ++ t244)).size + ((⟨#[46]⟩ : ByteArray) ++ t245).size ≤ 9223372036854775807 then (if (((x5_44 ++ (⟨#[93]⟩ : ByteArray)) ++ ((⟨#[60]⟩ : ByteArray) ++ t244)) ++ ((⟨#[46]⟩ : ByteArray) ++ t245)).size + 1 ≤ 9223372036854775807 then (some ((((x5_44 ++ (⟨#[93]⟩ : ByteArray)) ++ ((⟨#[60]⟩ : ByteArray) ++ t244)) ++ ((⟨#[46]⟩ : ByteArray) ++ t245)) ++ (⟨#[62]⟩ : ByteArray))) else (none)) else (none)) else (none)) = some r := H
                    have A58 := Aside0.mk A580
                    clear A580
                    by_cases c59 : 1 + t245.size ≤ 9223372036854775807
                    ·rw [if_pos c59] at H
                     have c59b0 := eq_true c59
                     have c59b1 : decide (1 + t245.size ≤ 9223372036854775807) = true := decide_eq_true c59
                     try have c59b2 : (9223372036854775807 < 1 + t245.size) = False := eq_false (Nat.not_lt.2 c59)
                     by_cases c60 : ((x5_44 ++ (⟨#[93]⟩ : ByteArray)) ++ ((⟨#[60]⟩ : ByteArray) ++ t244)).size + ((⟨#[46]⟩ : ByteArray) ++ t245).size ≤ 9223372036854775807
                     ·rw [if_pos c60] at H
                      have c60b0 := eq_true c60
                      have c60b1 : decide (((x5_44 ++ (⟨#[93]⟩ : ByteArray)) ++ ((⟨#[60]⟩ : ByteArray) ++ t244)).size + ((⟨#[46]⟩ : ByteArray) ++ t245).size ≤ 9223372036854775807) = true := decide_eq_true c60
                      try have c60b2 : (9223372036854775807 < ((x5_44 ++ (⟨#[93]⟩ : ByteArray)) ++ ((⟨#[60]⟩ : ByteArray) ++ t244)).size + ((⟨#[46]⟩ : ByteArray) ++ t245).size) = False := eq_false (Nat.not_lt.2 c60)
                      try have c60b4 : (9223372036854775807 < x5_44.size + 1 + (1 + t244.size) + (1 + t245.size)) = False := eq_false (Nat.not_lt.2 (by have h_ := c60; simp only [ByteArray.size_append] at h_; exact h_))
                      by_cases c61 : (((x5_44 ++ (⟨#[93]⟩ : ByteArray)) ++ ((⟨#[60]⟩ : ByteArray) ++ t244)) ++ ((⟨#[46]⟩ : ByteArray) ++ t245)).size + 1 ≤ 9223372036854775807
                      ·rw [if_pos c61] at H
                       have c61b0 := eq_true c61
                       have c61b1 : decide ((((x5_44 ++ (⟨#[93]⟩ : ByteArray)) ++ ((⟨#[60]⟩ : ByteArray) ++ t244)) ++ ((⟨#[46]⟩ : ByteArray) ++ t245)).size + 1 ≤ 9223372036854775807) = true := decide_eq_true c61
                       try have c61b2 : (9223372036854775807 < (((x5_44 ++ (⟨#[93]⟩ : ByteArray)) ++ ((⟨#[60]⟩ : ByteArray) ++ t244)) ++ ((⟨#[46]⟩ : ByteArray) ++ t245)).size + 1) = False := eq_false (Nat.not_lt.2 c61)
                       try have c61b4 : (9223372036854775807 < x5_44.size + 1 + (1 + t244.size) + (1 + t245.size) + 1) = False := eq_false (Nat.not_lt.2 (by have h_ := c61; simp only [ByteArray.size_append] at h_; exact h_))
                       obtain rfl := Option.some.inj H
                       obtain ⟨hcz62_0, hcz62_1, hcz62_2, hcz62_3, hcz62_4, hcz62_5, hfz62_0, hfz62_1, hfz62_2, hfz62_3, hfz62_4, hfz62_5⟩ := cz6_ BK233.out
                       go_wp2_with (first | ((with_reducible refine gate_callee (f := 16) rfl ?_); refine goesL_ (some 80) rfl rfl Tryd.func16 (by kernel_rfl) rfl #[.int .i64 a0_4] rfl qa_ ?_; (with_reducible refine (letterboxref01_Digits.calls kj44 a0_4 t244 _ A51.out).mono ?_); rintro e w63 ⟨rfl, hb⟩; refine ⟨_, rfl, ?_⟩; have n0_ := Aside0.mk (blk_below (g := gb233) (o := .cells #[.slice A0_0 l0_0.length c0_0, .int .i64 a0_1, .slice A0_2 l0_2.length c0_2, .bool true, .int .i64 a0_4, .int .i64 a0_5] 30 (0, 0)) (qk_ BK233.out) hb); have n1_ := Aside0.mk (below_step (qb_ HB.out) hb); clear BK233; clear HB; have BK233 := n0_; have HB := n1_; clear n0_ n1_; (try clear hb); (try clear hb2); (try clear hk); (try clear hi); have hcz64_0 : w63.cell? ⟨gb233, 0, none⟩ = some (.slice A0_0 l0_0.length c0_0) := (blk_cell BK233.out 0).trans rfl; have hcz64_1 : w63.cell? ⟨gb233, 1, none⟩ = some (.int .i64 a0_1) := (blk_cell BK233.out 1).trans rfl; have hcz64_2 : w63.cell? ⟨gb233, 2, none⟩ = some (.slice A0_2 l0_2.length c0_2) := (blk_cell BK233.out 2).trans rfl; have hcz64_3 : w63.cell? ⟨gb233, 3, none⟩ = some (.bool true) := (blk_cell BK233.out 3).trans rfl; have hcz64_4 : w63.cell? ⟨gb233, 4, none⟩ = some (.int .i64 a0_4) := (blk_cell BK233.out 4).trans rfl; have hcz64_5 : w63.cell? ⟨gb233, 5, none⟩ = some (.int .i64 a0_5) := (blk_cell BK233.out 5).trans rfl; have hfz64_0 := blk_frozen BK233.out 0; have hfz64_1 := blk_frozen BK233.out 1; have hfz64_2 := blk_frozen BK233.out 2; have hfz64_3 := blk_frozen BK233.out 3; have hfz64_4 := blk_frozen BK233.out 4; have hfz64_5 := blk_frozen BK233.out 5) | ((with_reducible refine gate_callee (f := 16) rfl ?_); refine goesL_ (some 88) rfl rfl Tryd.func16 (by kernel_rfl) rfl #[.int .i64 a0_5] rfl qa_ ?_; (with_reducible refine (letterboxref01_Digits.calls kj44 a0_5 t245 _ A58.out).mono ?_); rintro e w65 ⟨rfl, hb⟩; refine ⟨_, rfl, ?_⟩; have n0_ := Aside0.mk (blk_below (g := gb233) (o := .cells #[.slice A0_0 l0_0.length c0_0, .int .i64 a0_1, .slice A0_2 l0_2.length c0_2, .bool true, .int .i64 a0_4, .int .i64 a0_5] 30 (0, 0)) (qk_ BK233.out) hb); have n1_ := Aside0.mk (below_step (qb_ HB.out) hb); clear BK233; clear HB; have BK233 := n0_; have HB := n1_; clear n0_ n1_; (try clear hb); (try clear hb2); (try clear hk); (try clear hi)))
                       go_ret
                       exact ⟨qw_, qb_ HB.out⟩
                      ·rw [if_neg c61] at H
                       exact absurd H (by simp)
                     ·rw [if_neg c60] at H
                      exact absurd H (by simp)
                    ·rw [if_neg c59] at H
                     exact absurd H (by simp)
                  ·rw [if_neg c53] at H
                   exact absurd H (by simp)
                 ·rw [if_neg c52] at H
                  exact absurd H (by simp)
                ·replace c50 := Bool.eq_false_iff.mpr c50
                 subst c50
                 have H1 : (some (x5_44 ++ (⟨#[93]⟩ : ByteArray))) = some r := by rw [if_neg (show ¬ (false = true) by decide)] at H; exact H
                 clear H
                 have H := H1
                 clear H1
                 obtain rfl := Option.some.inj H
                 obtain ⟨hcz66_0, hcz66_1, hcz66_2, hcz66_3, hcz66_4, hcz66_5, hfz66_0, hfz66_1, hfz66_2, hfz66_3, hfz66_4, hfz66_5⟩ := cz6_ BK233.out
                 go_wp2
                 go_ret
                 exact ⟨qw_, qb_ HB.out⟩
               ·rw [if_neg c49] at H
                exact absurd H (by simp)
         ·rw [if_neg c30] at H
          exact absurd H (by simp)
 ·rw [if_neg c4] at H
  have c4b0 : (t234 == 0) = false := beq_eq_false_iff_ne.mpr c4
  have c4b1 : (t234 != 0) = true := bne_iff_ne.mpr c4
  obtain rfl := Option.some.inj H
  go_enter Tryd.func15, Tryd.ntmps15
  go_wp2_with (first | ((with_reducible refine gate_dst (N := 2) rfl ?_); refine box_event ?hg (N := 2) ?hd (cs := #[.slice A0_0 l0_0.length c0_0, .int .i64 a0_1, .slice A0_2 l0_2.length c0_2, .bool a0_3, .int .i64 a0_4, .int .i64 a0_5]) (t := 30) ?hr ?_; (case hd => rfl); (case hg => rfl); (case hr => first | (go_simp; done) | (go_simp; rfl)); intro gb233 hg w67 hbox hb; have n0_ := Aside0.mk (below_step (qb_ HB.out) hb); have n1_ := Aside0.mk (hbox); have n2_ := Aside0.mk ((by rw [hg]; exact (below_size (qb_ HB.out)) : w.heap.size ≤ gb233)); have n3_ := Aside0.mk ((by rw [hg]; exact (below_size (qb_ HB.out)) : w.heap.size ≤ gb233)); clear HB; have HB := n0_; have BK233 := n1_; have GW233 := n2_; have GE233 := n3_; clear n0_ n1_ n2_ n3_; clear hb hbox hg; have hcz68_0 : w67.cell? ⟨gb233, 0, none⟩ = some (.slice A0_0 l0_0.length c0_0) := (blk_cell BK233.out 0).trans rfl; have hcz68_1 : w67.cell? ⟨gb233, 1, none⟩ = some (.int .i64 a0_1) := (blk_cell BK233.out 1).trans rfl; have hcz68_2 : w67.cell? ⟨gb233, 2, none⟩ = some (.slice A0_2 l0_2.length c0_2) := (blk_cell BK233.out 2).trans rfl; have hcz68_3 : w67.cell? ⟨gb233, 3, none⟩ = some (.bool a0_3) := (blk_cell BK233.out 3).trans rfl; have hcz68_4 : w67.cell? ⟨gb233, 4, none⟩ = some (.int .i64 a0_4) := (blk_cell BK233.out 4).trans rfl; have hcz68_5 : w67.cell? ⟨gb233, 5, none⟩ = some (.int .i64 a0_5) := (blk_cell BK233.out 5).trans rfl; have hfz68_0 := blk_frozen BK233.out 0; have hfz68_1 := blk_frozen BK233.out 1; have hfz68_2 := blk_frozen BK233.out 2; have hfz68_3 := blk_frozen BK233.out 3; have hfz68_4 := blk_frozen BK233.out 4; have hfz68_5 := blk_frozen BK233.out 5) | ((with_reducible refine gate_callee (f := 13) rfl ?_); refine goesL_ (some 9) rfl rfl Tryd.func13 (by kernel_rfl) rfl #[.agg #[.slice A0_0 l0_0.length c0_0, .int .i64 a0_1, .slice A0_2 l0_2.length c0_2, .bool a0_3, .int .i64 a0_4, .int .i64 a0_5]] rfl qa_ ?_; (with_reducible refine (letterboxref15_Check.calls k _ _ l0_0 a0_1 _ _ l0_2 a0_3 a0_4 a0_5 t234 _ ?side1 ?side2 ?side3 ?side4 A3.out).mono ?_); (case side1 => repeat (first | exact (Kd.C_below HR0_0.out HB.out) | (with_reducible refine Kd.C_alloc ?_ _) | (with_reducible refine Kd.C_drewN ?_ _) | (with_reducible refine Kd.C_drew ?_))); (case side2 => exact HC0_0.out); (case side3 => repeat (first | exact (Kd.C_below HR0_2.out HB.out) | (with_reducible refine Kd.C_alloc ?_ _) | (with_reducible refine Kd.C_drewN ?_ _) | (with_reducible refine Kd.C_drew ?_))); (case side4 => exact HC0_2.out); rintro e w69 ⟨rfl, hb⟩; refine ⟨_, rfl, ?_⟩; have n0_ := Aside0.mk (blk_below (g := gb233) (o := .cells #[.slice A0_0 l0_0.length c0_0, .int .i64 a0_1, .slice A0_2 l0_2.length c0_2, .bool a0_3, .int .i64 a0_4, .int .i64 a0_5] 30 (0, 0)) (qk_ BK233.out) hb); have n1_ := Aside0.mk (below_step (qb_ HB.out) hb); clear BK233; clear HB; have BK233 := n0_; have HB := n1_; clear n0_ n1_; (try clear hb); (try clear hb2); (try clear hk); (try clear hi)))
  go_ret
  exact ⟨qw_, qb_ HB.out⟩

end Go.Proofs.YtbjbagocnnffaaaDoor.P
