-- Written by a program of this session (wip/tools/mk.sh) for this claim: it runs the kit's print with contracts of our own. Lean checks it.
import Derived.Test.YtbjbagocnnffaaaDoorPx0
import Derived.Test.YtbjbagocnnffaaaDoorWRepsOne
import Derived.Test.YtbjbagocnnffaaaDoorZStr
import Derived.Test.YtbjbagocnnffaaaDoorPx1
import Derived.Test.YtbjbagocnnffaaaDoorPx2
import Derived.Test.YtbjbagocnnffaaaDoorPx5
import Derived.Test.YtbjbagocnnffaaaDoorPx6
import Derived.Test.YtbjbagocnnffaaaDoorPx7
namespace Go.Proofs.YtbjbagocnnffaaaDoor.P
open Go.RowKit Go.Proofs.YtbjbagocnnffaaaDoorW.PrintWords Go.Proofs.YtbjbagocnnffaaaDoorW.PrintLast Go.Proofs.YtbjbagocnnffaaaDoorW.PrintMore
attribute [-simp] Int.tmod_tmod_of_dvd
attribute [local go_sem] max2_int min2_int max_two min_two max_three min_three max_four min_four   -- for this text's walks alone
set_option linter.unusedVariables false
set_option linter.unusedSimpArgs false

/-! ### section_Put: function 14 -/
mutual
def section_Put.l0 : Nat → Bool → List ByteArray → List Int → Int → Int → List Int → Int → List ByteArray → Bool → Int → Int → Option (ByteArray)
 | 0, _, _, _, _, _, _, _, _, _, _, _ => none
 | k + 1, x1, x5, x16, x17, x18, x186000, x186001, x186002, x186003, x186004, x186005 => if x18 < x17 then (if 0 ≤ x18 then (if x18 < (x16.length : Int) then ((chars_Digits.f k (rd x16 x18)).bind fun t188 => (if x5.length < 8796093022208 then (section_Put.l0 k x1 (x5 ++ [t188]) x16 x17 (wrap64 (x18 + 1)) x186000 x186001 x186002 x186003 x186004 x186005) else (none))) else (none)) else (none)) else (if x186001 = 0 then (section_Put.j1 k x1 x5 x186000 x186001 x186002 x186003 x186004 x186005) else (if 0 ≤ x186001 then (if x186001 < 6 then (if x5.length < 8796093022208 then (section_Put.j1 k x1 (x5 ++ [sec_word x186001]) x186000 x186001 x186002 x186003 x186004 x186005) else (none)) else (none)) else (none)))
def section_Put.j1 : Nat → Bool → List ByteArray → List Int → Int → List ByteArray → Bool → Int → Int → Option (ByteArray)
 | 0, _, _, _, _, _, _, _, _ => none
 | k + 1, x1, x5, x186000, x186001, x186002, x186003, x186004, x186005 => (strings_Join.f x5 (⟨#[46]⟩ : ByteArray)).bind fun t195 => (if 1 + t195.size ≤ 9223372036854775807 then ((section_Spec_listed.f x186000 x186001 x186002 x186003 x186004 x186005).bind fun t196 => (if t196 = true then (section_Put.l1 k x1 ((⟨#[91]⟩ : ByteArray) ++ t195) ([] : List ByteArray) x186002 (x186002.length : Int) 0 x186000 x186001 x186002 x186003 x186004 x186005) else (section_Put.j3 k x1 ((⟨#[91]⟩ : ByteArray) ++ t195) x186000 x186001 x186002 x186003 x186004 x186005))) else (none))
def section_Put.j3 : Nat → Bool → ByteArray → List Int → Int → List ByteArray → Bool → Int → Int → Option (ByteArray)
 | 0, _, _, _, _, _, _, _, _ => none
 | k + 1, x1, x8, x186000, x186001, x186002, x186003, x186004, x186005 => if x8.size + 1 ≤ 9223372036854775807 then (if x186003 = true then ((chars_Digits.f k x186004).bind fun t207 => (if 1 + t207.size ≤ 9223372036854775807 then (if (x8 ++ (⟨#[93]⟩ : ByteArray)).size + ((⟨#[60]⟩ : ByteArray) ++ t207).size ≤ 9223372036854775807 then (if x1 = true then (if ((x8 ++ (⟨#[93]⟩ : ByteArray)) ++ ((⟨#[60]⟩ : ByteArray) ++ t207)).size + 1 ≤ 9223372036854775807 then (some (((x8 ++ (⟨#[93]⟩ : ByteArray)) ++ ((⟨#[60]⟩ : ByteArray) ++ t207)) ++ (⟨#[62]⟩ : ByteArray))) else (none)) else ((chars_Digits.f k x186005).bind fun t208 => (if 1 + t208.size ≤ 9223372036854775807 then (if ((x8 ++ (⟨#[93]⟩ : ByteArray)) ++ ((⟨#[60]⟩ : ByteArray) ++ t207)).size + ((⟨#[46]⟩ : ByteArray) ++ t208).size ≤ 9223372036854775807 then (if (((x8 ++ (⟨#[93]⟩ : ByteArray)) ++ ((⟨#[60]⟩ : ByteArray) ++ t207)) ++ ((⟨#[46]⟩ : ByteArray) ++ t208)).size + 1 ≤ 9223372036854775807 then (some ((((x8 ++ (⟨#[93]⟩ : ByteArray)) ++ ((⟨#[60]⟩ : ByteArray) ++ t207)) ++ ((⟨#[46]⟩ : ByteArray) ++ t208)) ++ (⟨#[62]⟩ : ByteArray))) else (none)) else (none)) else (none)))) else (none)) else (none))) else (some (x8 ++ (⟨#[93]⟩ : ByteArray)))) else (none)
def section_Put.l1 : Nat → Bool → ByteArray → List ByteArray → List ByteArray → Int → Int → List Int → Int → List ByteArray → Bool → Int → Int → Option (ByteArray)
 | 0, _, _, _, _, _, _, _, _, _, _, _, _ => none
 | k + 1, x1, x8, x9, x44, x45, x46, x186000, x186001, x186002, x186003, x186004, x186005 => if x46 < x45 then (if 0 ≤ x46 then (if x46 < (x44.length : Int) then ((section_atom.f k (rdOf ByteArray.empty x44 x46)).bind fun t199 => (if t199 = true then (if x9.length < 8796093022208 then (section_Put.l1 k x1 x8 (x9 ++ [rdOf ByteArray.empty x44 x46]) x44 x45 (wrap64 (x46 + 1)) x186000 x186001 x186002 x186003 x186004 x186005) else (none)) else ((params_Quoted.f k (rdOf ByteArray.empty x44 x46)).bind fun t203 => (if x9.length < 8796093022208 then (section_Put.l1 k x1 x8 (x9 ++ [t203]) x44 x45 (wrap64 (x46 + 1)) x186000 x186001 x186002 x186003 x186004 x186005) else (none))))) else (none)) else (none)) else ((strings_Join.f x9 (⟨#[32]⟩ : ByteArray)).bind fun t197 => (if 2 + t197.size ≤ 9223372036854775807 then (if ((⟨#[32, 40]⟩ : ByteArray) ++ t197).size + 1 ≤ 9223372036854775807 then (if x8.size + (((⟨#[32, 40]⟩ : ByteArray) ++ t197) ++ (⟨#[41]⟩ : ByteArray)).size ≤ 9223372036854775807 then (section_Put.j3 k x1 (x8 ++ (((⟨#[32, 40]⟩ : ByteArray) ++ t197) ++ (⟨#[41]⟩ : ByteArray))) x186000 x186001 x186002 x186003 x186004 x186005) else (none)) else (none)) else (none)))
end
def section_Put.f (k : Nat) (l0_0 : List Int) (a0_1 : Int) (l0_2 : List ByteArray) (a0_3 : Bool) (a0_4 : Int) (a0_5 : Int) (a1 : Bool) : Option (ByteArray) := (section_Check.f k l0_0 a0_1 l0_2 a0_3 a0_4 a0_5).bind fun t186 => (if t186 = 0 then (section_Put.l0 k a1 ([] : List ByteArray) l0_0 (l0_0.length : Int) 0 l0_0 a0_1 l0_2 a0_3 a0_4 a0_5) else (some (⟨#[]⟩ : ByteArray)))
theorem section_Put.mono_l : ∀ k, (∀ y0 y1 y2 y3 y4 y5 y6 y7 y8 y9 y10, LeO (section_Put.l0 k y0 y1 y2 y3 y4 y5 y6 y7 y8 y9 y10) (section_Put.l0 (k + 1) y0 y1 y2 y3 y4 y5 y6 y7 y8 y9 y10)) ∧ (∀ y0 y1 y2 y3 y4 y5 y6 y7, LeO (section_Put.j1 k y0 y1 y2 y3 y4 y5 y6 y7) (section_Put.j1 (k + 1) y0 y1 y2 y3 y4 y5 y6 y7)) ∧ (∀ y0 y1 y2 y3 y4 y5 y6 y7, LeO (section_Put.j3 k y0 y1 y2 y3 y4 y5 y6 y7) (section_Put.j3 (k + 1) y0 y1 y2 y3 y4 y5 y6 y7)) ∧ (∀ y0 y1 y2 y3 y4 y5 y6 y7 y8 y9 y10 y11, LeO (section_Put.l1 k y0 y1 y2 y3 y4 y5 y6 y7 y8 y9 y10 y11) (section_Put.l1 (k + 1) y0 y1 y2 y3 y4 y5 y6 y7 y8 y9 y10 y11))
 | 0 => ⟨fun _ _ _ _ _ _ _ _ _ _ _ r h => by simp [section_Put.l0] at h, fun _ _ _ _ _ _ _ _ r h => by simp [section_Put.j1] at h, fun _ _ _ _ _ _ _ _ r h => by simp [section_Put.j3] at h, fun _ _ _ _ _ _ _ _ _ _ _ _ r h => by simp [section_Put.l1] at h⟩
 | k + 1 => by
  obtain ⟨ih0, ih1, ih2, ih3⟩ := section_Put.mono_l k
  refine ⟨?_, ?_, ?_, ?_⟩
  ·intro y0 y1 y2 y3 y4 y5 y6 y7 y8 y9 y10
   unfold section_Put.l0
   repeat' first
   | (with_reducible exact ih0 _ _ _ _ _ _ _ _ _ _ _)
   | (with_reducible exact ih1 _ _ _ _ _ _ _ _)
   | (with_reducible exact ih2 _ _ _ _ _ _ _ _)
   | (with_reducible exact ih3 _ _ _ _ _ _ _ _ _ _ _ _)
   | (with_reducible exact chars_Digits.mono _ _)
   | (with_reducible exact params_Quoted.mono _ _)
   | (with_reducible exact section_Check.mono _ _ _ _ _ _ _)
   | (with_reducible exact section_atom.mono _ _)
   | (with_reducible exact LeO.refl _)
   | (with_reducible exact LeO.none _)
   | (with_reducible refine LeO.ite ?_ ?_)
   | (with_reducible refine LeO.bind ?_ (fun _ => ?_))
   | exact ih0 _ _ _ _ _ _ _ _ _ _ _
   | exact ih1 _ _ _ _ _ _ _ _
   | exact ih2 _ _ _ _ _ _ _ _
   | exact ih3 _ _ _ _ _ _ _ _ _ _ _ _
   | exact chars_Digits.mono _ _
   | exact params_Quoted.mono _ _
   | exact section_Check.mono _ _ _ _ _ _ _
   | exact section_atom.mono _ _
   | exact LeO.none _
   | refine LeO.ite ?_ ?_
   | refine LeO.bind ?_ (fun _ => ?_)
  ·intro y0 y1 y2 y3 y4 y5 y6 y7
   unfold section_Put.j1
   repeat' first
   | (with_reducible exact ih0 _ _ _ _ _ _ _ _ _ _ _)
   | (with_reducible exact ih1 _ _ _ _ _ _ _ _)
   | (with_reducible exact ih2 _ _ _ _ _ _ _ _)
   | (with_reducible exact ih3 _ _ _ _ _ _ _ _ _ _ _ _)
   | (with_reducible exact chars_Digits.mono _ _)
   | (with_reducible exact params_Quoted.mono _ _)
   | (with_reducible exact section_Check.mono _ _ _ _ _ _ _)
   | (with_reducible exact section_atom.mono _ _)
   | (with_reducible exact LeO.refl _)
   | (with_reducible exact LeO.none _)
   | (with_reducible refine LeO.ite ?_ ?_)
   | (with_reducible refine LeO.bind ?_ (fun _ => ?_))
   | exact ih0 _ _ _ _ _ _ _ _ _ _ _
   | exact ih1 _ _ _ _ _ _ _ _
   | exact ih2 _ _ _ _ _ _ _ _
   | exact ih3 _ _ _ _ _ _ _ _ _ _ _ _
   | exact chars_Digits.mono _ _
   | exact params_Quoted.mono _ _
   | exact section_Check.mono _ _ _ _ _ _ _
   | exact section_atom.mono _ _
   | exact LeO.none _
   | refine LeO.ite ?_ ?_
   | refine LeO.bind ?_ (fun _ => ?_)
  ·intro y0 y1 y2 y3 y4 y5 y6 y7
   unfold section_Put.j3
   repeat' first
   | (with_reducible exact ih0 _ _ _ _ _ _ _ _ _ _ _)
   | (with_reducible exact ih1 _ _ _ _ _ _ _ _)
   | (with_reducible exact ih2 _ _ _ _ _ _ _ _)
   | (with_reducible exact ih3 _ _ _ _ _ _ _ _ _ _ _ _)
   | (with_reducible exact chars_Digits.mono _ _)
   | (with_reducible exact params_Quoted.mono _ _)
   | (with_reducible exact section_Check.mono _ _ _ _ _ _ _)
   | (with_reducible exact section_atom.mono _ _)
   | (with_reducible exact LeO.refl _)
   | (with_reducible exact LeO.none _)
   | (with_reducible refine LeO.ite ?_ ?_)
   | (with_reducible refine LeO.bind ?_ (fun _ => ?_))
   | exact ih0 _ _ _ _ _ _ _ _ _ _ _
   | exact ih1 _ _ _ _ _ _ _ _
   | exact ih2 _ _ _ _ _ _ _ _
   | exact ih3 _ _ _ _ _ _ _ _ _ _ _ _
   | exact chars_Digits.mono _ _
   | exact params_Quoted.mono _ _
   | exact section_Check.mono _ _ _ _ _ _ _
   | exact section_atom.mono _ _
   | exact LeO.none _
   | refine LeO.ite ?_ ?_
   | refine LeO.bind ?_ (fun _ => ?_)
  ·intro y0 y1 y2 y3 y4 y5 y6 y7 y8 y9 y10 y11
   unfold section_Put.l1
   repeat' first
   | (with_reducible exact ih0 _ _ _ _ _ _ _ _ _ _ _)
   | (with_reducible exact ih1 _ _ _ _ _ _ _ _)
   | (with_reducible exact ih2 _ _ _ _ _ _ _ _)
   | (with_reducible exact ih3 _ _ _ _ _ _ _ _ _ _ _ _)
   | (with_reducible exact chars_Digits.mono _ _)
   | (with_reducible exact params_Quoted.mono _ _)
   | (with_reducible exact section_Check.mono _ _ _ _ _ _ _)
   | (with_reducible exact section_atom.mono _ _)
   | (with_reducible exact LeO.refl _)
   | (with_reducible exact LeO.none _)
   | (with_reducible refine LeO.ite ?_ ?_)
   | (with_reducible refine LeO.bind ?_ (fun _ => ?_))
   | exact ih0 _ _ _ _ _ _ _ _ _ _ _
   | exact ih1 _ _ _ _ _ _ _ _
   | exact ih2 _ _ _ _ _ _ _ _
   | exact ih3 _ _ _ _ _ _ _ _ _ _ _ _
   | exact chars_Digits.mono _ _
   | exact params_Quoted.mono _ _
   | exact section_Check.mono _ _ _ _ _ _ _
   | exact section_atom.mono _ _
   | exact LeO.none _
   | refine LeO.ite ?_ ?_
   | refine LeO.bind ?_ (fun _ => ?_)
theorem section_Put.mono : ∀ a0 a1 a2 a3 a4 a5 a6 k, LeO (section_Put.f k a0 a1 a2 a3 a4 a5 a6) (section_Put.f (k + 1) a0 a1 a2 a3 a4 a5 a6) := by
 intro a0 a1 a2 a3 a4 a5 a6 k
 obtain ⟨ih0, ih1, ih2, ih3⟩ := section_Put.mono_l k
 unfold section_Put.f
 repeat' first
   | (with_reducible exact ih0 _ _ _ _ _ _ _ _ _ _ _)
   | (with_reducible exact ih1 _ _ _ _ _ _ _ _)
   | (with_reducible exact ih2 _ _ _ _ _ _ _ _)
   | (with_reducible exact ih3 _ _ _ _ _ _ _ _ _ _ _ _)
   | (with_reducible exact chars_Digits.mono _ _)
   | (with_reducible exact params_Quoted.mono _ _)
   | (with_reducible exact section_Check.mono _ _ _ _ _ _ _)
   | (with_reducible exact section_atom.mono _ _)
   | (with_reducible exact LeO.refl _)
   | (with_reducible exact LeO.none _)
   | (with_reducible refine LeO.ite ?_ ?_)
   | (with_reducible refine LeO.bind ?_ (fun _ => ?_))
   | exact ih0 _ _ _ _ _ _ _ _ _ _ _
   | exact ih1 _ _ _ _ _ _ _ _
   | exact ih2 _ _ _ _ _ _ _ _
   | exact ih3 _ _ _ _ _ _ _ _ _ _ _ _
   | exact chars_Digits.mono _ _
   | exact params_Quoted.mono _ _
   | exact section_Check.mono _ _ _ _ _ _ _
   | exact section_atom.mono _ _
   | exact LeO.none _
   | refine LeO.ite ?_ ?_
   | refine LeO.bind ?_ (fun _ => ?_)
set_option maxHeartbeats 8000000 in
set_option maxRecDepth 100000 in
theorem section_Put.calls (k : Nat) (A0_0 : Option Addr) (c0_0 : Nat) (l0_0 : List Int) (a0_1 : Int) (A0_2 : Option Addr) (c0_2 : Nat) (l0_2 : List ByteArray) (a0_3 : Bool) (a0_4 : Int) (a0_5 : Int) (a1 : Bool) (r : ByteArray) (w : World) (hr0_0 : Kd.C (Kd.int .i64) w A0_0 l0_0.length l0_0) (hc0_0 : l0_0.length ≤ c0_0) (hr0_2 : Kd.C Kd.string w A0_2 l0_2.length l0_2) (hc0_2 : l0_2.length ≤ c0_2) (h : section_Put.f k l0_0 a0_1 l0_2 a0_3 a0_4 a0_5 a1 = some r) (hL0 : sec_Words w := by first | exact hL0 | exact sec_Words.below hL0 (by repeat (first | (with_reducible first | exact HB.out | apply below_alloc | apply pw_below_drewN | apply below_drew1 | refine below_set ?_ (Aside0.out (by assumption))) | exact HB.out))) :
  Calls Tryd.prog 14 #[.agg #[.slice A0_0 l0_0.length c0_0, .int .i64 a0_1, .slice A0_2 l0_2.length c0_2, .bool a0_3, .int .i64 a0_4, .int .i64 a0_5], .bool a1] w fun e w' => e = .returned (.string r) ∧ Below w.heap.size w w' := by
 have hu26 := Tryd.underlying26
 have HR0_0 := Aside0.mk hr0_0
 have HC0_0 := Aside0.mk hc0_0
 clear hr0_0 hc0_0
 have HR0_2 := Aside0.mk hr0_2
 have HC0_2 := Aside0.mk hc0_2
 clear hr0_2 hc0_2
 have HB := Aside0.mk (Below.refl w.heap.size w)
 have H : ((section_Check.f k l0_0 a0_1 l0_2 a0_3 a0_4 a0_5).bind fun t186 => (if t186 = 0 then (section_Put.l0 k a1 ([] : List ByteArray) l0_0 (l0_0.length : Int) 0 l0_0 a0_1 l0_2 a0_3 a0_4 a0_5) else (some (⟨#[]⟩ : ByteArray)))) = some r := h
 clear h
 replace H := Option.bind_eq_some_iff.mp H
 obtain ⟨t186, A30, H⟩ := H
 replace H : (if t186 = 0 then (section_Put.l0 k a1 ([] : List ByteArray) l0_0 (l0_0.length : Int) 0 l0_0 a0_1 l0_2 a0_3 a0_4 a0_5) else (some (⟨#[]⟩ : ByteArray))) = some r := H
 have A3 := Aside0.mk A30
 clear A30
 by_cases c4 : t186 = 0
 ·rw [if_pos c4] at H
  have c4b0 : (t186 == 0) = true := beq_iff_eq.mpr c4
  have c4b1 : (t186 != 0) = false := bne_eq_false_iff_eq.mpr c4
  clear c4
  have H' := Aside0.mk H
  clear H
  go_enter Tryd.func14, Tryd.ntmps14
  go_wp2_with (first | ((with_reducible refine gate_dst (N := 2) rfl ?_); refine box_event ?hg (N := 2) ?hd (cs := #[.slice A0_0 l0_0.length c0_0, .int .i64 a0_1, .slice A0_2 l0_2.length c0_2, .bool a0_3, .int .i64 a0_4, .int .i64 a0_5]) (t := 26) ?hr ?_; (case hd => rfl); (case hg => rfl); (case hr => first | (go_simp; done) | (go_simp; rfl)); intro gb185 hg w5 hbox hb; have n0_ := Aside0.mk (below_step (qb_ HB.out) hb); have n1_ := Aside0.mk (hbox); have n2_ := Aside0.mk ((by rw [hg]; exact (below_size (qb_ HB.out)) : w.heap.size ≤ gb185)); have n3_ := Aside0.mk ((by rw [hg]; exact (below_size (qb_ HB.out)) : w.heap.size ≤ gb185)); clear HB; have HB := n0_; have BK185 := n1_; have GW185 := n2_; have GE185 := n3_; clear n0_ n1_ n2_ n3_; clear hb hbox hg; have hcz6_0 : w5.cell? ⟨gb185, 0, none⟩ = some (.slice A0_0 l0_0.length c0_0) := (blk_cell BK185.out 0).trans rfl; have hcz6_1 : w5.cell? ⟨gb185, 1, none⟩ = some (.int .i64 a0_1) := (blk_cell BK185.out 1).trans rfl; have hcz6_2 : w5.cell? ⟨gb185, 2, none⟩ = some (.slice A0_2 l0_2.length c0_2) := (blk_cell BK185.out 2).trans rfl; have hcz6_3 : w5.cell? ⟨gb185, 3, none⟩ = some (.bool a0_3) := (blk_cell BK185.out 3).trans rfl; have hcz6_4 : w5.cell? ⟨gb185, 4, none⟩ = some (.int .i64 a0_4) := (blk_cell BK185.out 4).trans rfl; have hcz6_5 : w5.cell? ⟨gb185, 5, none⟩ = some (.int .i64 a0_5) := (blk_cell BK185.out 5).trans rfl; have hfz6_0 := blk_frozen BK185.out 0; have hfz6_1 := blk_frozen BK185.out 1; have hfz6_2 := blk_frozen BK185.out 2; have hfz6_3 := blk_frozen BK185.out 3; have hfz6_4 := blk_frozen BK185.out 4; have hfz6_5 := blk_frozen BK185.out 5) | ((with_reducible refine gate_callee (f := 12) rfl ?_); refine goesL_ (some 13) rfl rfl Tryd.func12 (by kernel_rfl) rfl #[.agg #[.slice A0_0 l0_0.length c0_0, .int .i64 a0_1, .slice A0_2 l0_2.length c0_2, .bool a0_3, .int .i64 a0_4, .int .i64 a0_5]] rfl qa_ ?_; (with_reducible refine (section_Check.calls k _ _ l0_0 a0_1 _ _ l0_2 a0_3 a0_4 a0_5 t186 _ ?side1 ?side2 ?side3 ?side4 A3.out).mono ?_); (case side1 => repeat (first | exact (Kd.C_below HR0_0.out HB.out) | (with_reducible refine Kd.C_alloc ?_ _) | (with_reducible refine Kd.C_drewN ?_ _) | (with_reducible refine Kd.C_drew ?_))); (case side2 => exact HC0_0.out); (case side3 => repeat (first | exact (Kd.C_below HR0_2.out HB.out) | (with_reducible refine Kd.C_alloc ?_ _) | (with_reducible refine Kd.C_drewN ?_ _) | (with_reducible refine Kd.C_drew ?_))); (case side4 => exact HC0_2.out); rintro e w7 ⟨rfl, hb⟩; refine ⟨_, rfl, ?_⟩; have n0_ := Aside0.mk (blk_below (g := gb185) (o := .cells #[.slice A0_0 l0_0.length c0_0, .int .i64 a0_1, .slice A0_2 l0_2.length c0_2, .bool a0_3, .int .i64 a0_4, .int .i64 a0_5] 26 (0, 0)) (qk_ BK185.out) hb); have n1_ := Aside0.mk (below_step (qb_ HB.out) hb); clear BK185; clear HB; have BK185 := n0_; have HB := n1_; clear n0_ n1_; (try clear hb); (try clear hb2); (try clear hk); (try clear hi); have hcz8_0 : w7.cell? ⟨gb185, 0, none⟩ = some (.slice A0_0 l0_0.length c0_0) := (blk_cell BK185.out 0).trans rfl; have hcz8_1 : w7.cell? ⟨gb185, 1, none⟩ = some (.int .i64 a0_1) := (blk_cell BK185.out 1).trans rfl; have hcz8_2 : w7.cell? ⟨gb185, 2, none⟩ = some (.slice A0_2 l0_2.length c0_2) := (blk_cell BK185.out 2).trans rfl; have hcz8_3 : w7.cell? ⟨gb185, 3, none⟩ = some (.bool a0_3) := (blk_cell BK185.out 3).trans rfl; have hcz8_4 : w7.cell? ⟨gb185, 4, none⟩ = some (.int .i64 a0_4) := (blk_cell BK185.out 4).trans rfl; have hcz8_5 : w7.cell? ⟨gb185, 5, none⟩ = some (.int .i64 a0_5) := (blk_cell BK185.out 5).trans rfl; have hfz8_0 := blk_frozen BK185.out 0; have hfz8_1 := blk_frozen BK185.out 1; have hfz8_2 := blk_frozen BK185.out 2; have hfz8_3 := blk_frozen BK185.out 3; have hfz8_4 := blk_frozen BK185.out 4; have hfz8_5 := blk_frozen BK185.out 5))
  go_loopg [5, 18] k (fun kq v5 v18 w' => ∃ (x5_1 : List ByteArray) (x18_1 : Int), v18 = .int .i64 x18_1 ∧ Aside0 (section_Put.l0 kq a1 x5_1 l0_0 (l0_0.length : Int) x18_1 l0_0 a0_1 l0_2 a0_3 a0_4 a0_5 = some r) ∧ Aside0 (kq ≤ k) ∧ Aside0 (Kd.R Kd.string 9 w' w.heap.size (fun _ => True) v5 x5_1) ∧ Aside0 (w'.heap[gb185]? = some (.cells #[(.slice A0_0 l0_0.length c0_0), .int .i64 a0_1, (.slice A0_2 l0_2.length c0_2), .bool a0_3, .int .i64 a0_4, .int .i64 a0_5] 26 (0, 0))) ∧ Aside0 (Below w.heap.size w w'))
  case atStart => exact ⟨(([] : List ByteArray)), (0), qr_, H', ⟨Nat.le_refl _⟩, ⟨qn_⟩, ⟨qk_ BK185.out⟩, ⟨qb_ HB.out⟩⟩
  case round =>
   clear H'
   obtain ⟨x5_1, x18_1, rfl, HA, HK1, HO_5, BK185, HB⟩ := hrel
   cases gk with
   | zero => exact absurd HA.out (by simp [section_Put.l0])
   | succ k1 =>
    have H := HA.out
    clear HA
    simp only [section_Put.l0] at H
    by_cases c9 : x18_1 < (l0_0.length : Int)
    ·rw [if_pos c9] at H
     have c9b0 : decide (x18_1 < (l0_0.length : Int)) = true := decide_eq_true c9
     clear c9
     by_cases c10 : 0 ≤ x18_1
     ·rw [if_pos c10] at H
      have c10b0 : decide (0 ≤ x18_1) = true := decide_eq_true c10
      clear c10
      by_cases c11 : x18_1 < (l0_0.length : Int)
      ·rw [if_pos c11] at H
       have c11b0 : decide (x18_1 < (l0_0.length : Int)) = true := decide_eq_true c11
       clear c11
       replace H := Option.bind_eq_some_iff.mp H
       obtain ⟨t188, A120, H⟩ := H
       replace H : (if x5_1.length < 8796093022208 then (section_Put.l0 k1 a1 (x5_1 ++ [t188]) l0_0 (l0_0.length : Int) (wrap64 (x18_1 + 1)) l0_0 a0_1 l0_2 a0_3 a0_4 a0_5) else (none)) = some r := H
       have A12 := Aside0.mk A120
       clear A120
       by_cases c13 : x5_1.length < 8796093022208
       ·rw [if_pos c13] at H
        have LMc13 := Aside0.mk c13
        clear c13
        obtain ⟨y189, hy189⟩ : ∃ y_ : List ByteArray, y_ = (x5_1 ++ [t188]) := ⟨_, rfl⟩
        replace H : (section_Put.l0 k1 a1 y189 l0_0 (l0_0.length : Int) (wrap64 (x18_1 + 1)) l0_0 a0_1 l0_2 a0_3 a0_4 a0_5) = some r := by first | (rw [hy189]; with_reducible exact H) | (have H2_ := (Option.bind_some _ _).symm.trans H; rw [hy189]; with_reducible exact H2_) | (have H2_ := (Option.bind_some _ _).symm.trans H; with_reducible exact H2_) | with_reducible exact H | (rw [hy189]; exact H) | exact H
        have Ny189 := Aside0.mk hy189
        clear hy189
        have H' := Aside0.mk H
        clear H
        have p187 : 0 ≤ (x18_1 : Int) := qd_
        have q187 : x18_1 < (l0_0.length : Int) := qd_
        obtain ⟨ad187, e187, hx187_0⟩ := Kd.at_int HR0_0.out x18_1 p187 q187
        cases e187
        replace hx187_0 := (HB.out.cell (World.block_lt_of_cell? w _ hx187_0)).trans hx187_0
        replace p187 := eq_true p187
        replace q187 := eq_true q187
        go_wp2_with (first | ((with_reducible refine gate_callee (f := 30) rfl ?_); refine goesL_ (some 24) rfl rfl Tryd.func30 (by kernel_rfl) rfl #[.int .i64 (rd l0_0 x18_1)] rfl qa_ ?_; (with_reducible refine (chars_Digits.calls k1 (rd l0_0 x18_1) t188 _ A12.out).mono ?_); rintro e w14 ⟨rfl, hb⟩; refine ⟨_, rfl, ?_⟩; have n0_ := Aside0.mk (Kd.R_below (ql_ HO_5.out) hb); have n1_ := Aside0.mk (blk_below (g := gb185) (o := .cells #[.slice (some ad187) l0_0.length c0_0, .int .i64 a0_1, .slice A0_2 l0_2.length c0_2, .bool a0_3, .int .i64 a0_4, .int .i64 a0_5] 26 (0, 0)) (qk_ BK185.out) hb); have n2_ := Aside0.mk (below_step (qb_ HB.out) hb); clear HO_5; clear BK185; clear HB; have HO_5 := n0_; have BK185 := n1_; have HB := n2_; clear n0_ n1_ n2_; (try clear hb); (try clear hb2); (try clear hk); (try clear hi)) | ((with_reducible refine gate_builtin (b := .append) (xs := #[.tmp 22, .tmp 25]) rfl ?_); at_builtin; refine Kd.R_append Kd.string (w0 := w) w.heap.size rfl (.tmp 22) (.tmp 25) 24 9 (.string ⟨#[]⟩) 16 rfl Tryd.underlying24 info9 rfl (by decide) (by omega) u5 x5_1 t188 [.string t188] (fun _ => True) (fun _ => False) rfl rfl ?aP (fun _ hk => hk.elim) ?aF ?aO ?aB ?aS ?aL ?_; (case aP => exact rfl); (case aB => exact (qb_ HB.out)); (case aF => exact (fun _ _ => trivial)); (case aO => exact (ql_ HO_5.out)); (case aS => exact (below_size (qb_ HB.out))); (case aL => have := LMc13.out; omega); intro v190 w15 ho hb hg hat; rw [← Ny189.out] at ho; have n0_ := Aside0.mk (blk_grown (g := gb185) (o := .cells #[.slice (some ad187) l0_0.length c0_0, .int .i64 a0_1, .slice A0_2 l0_2.length c0_2, .bool a0_3, .int .i64 a0_4, .int .i64 a0_5] 26 (0, 0)) (qk_ BK185.out) hg (Kd.R_ne HO_5.out BK185.out (by decide))); have n1_ := Aside0.mk (hb); have n2_ := Aside0.mk (ho); clear BK185; clear HB; clear HO_5; have BK185 := n0_; have HB := n1_; have HO191 := n2_; clear n0_ n1_ n2_; clear ho hb hg hat))
        go_roundg k1
        case measure => have := HK1.out; omega
        case rel => exact ⟨(y189), (wrap64 (x18_1 + 1)), qr_, H', ⟨by have := HK1.out; omega⟩, ⟨ql_ HO191.out⟩, ⟨qk_ BK185.out⟩, ⟨qb_ HB.out⟩⟩
       ·rw [if_neg c13] at H
        exact absurd H (by simp)
      ·rw [if_neg c11] at H
       exact absurd H (by simp)
     ·rw [if_neg c10] at H
      exact absurd H (by simp)
    ·rw [if_neg c9] at H
     have c9b0 : decide (x18_1 < (l0_0.length : Int)) = false := decide_eq_false c9
     clear c9
     have HC16 := Aside0.mk H
     clear H
     obtain ⟨hcz17_0, hcz17_1, hcz17_2, hcz17_3, hcz17_4, hcz17_5, hfz17_0, hfz17_1, hfz17_2, hfz17_3, hfz17_4, hfz17_5⟩ := cz6_ BK185.out
     go_upto_if 30 with (fail)
     go_cut [5] (fun v5 wc => ∃ (kq : Nat) (x5_15 : List ByteArray), Aside0 (section_Put.j1 kq a1 x5_15 l0_0 a0_1 l0_2 a0_3 a0_4 a0_5 = some r) ∧ Aside0 (kq ≤ k1) ∧ Aside0 (Kd.R Kd.string 9 wc w.heap.size (fun _ => True) v5 x5_15) ∧ Aside0 (wc.heap[gb185]? = some (.cells #[(.slice A0_0 l0_0.length c0_0), .int .i64 a0_1, (.slice A0_2 l0_2.length c0_2), .bool a0_3, .int .i64 a0_4, .int .i64 a0_5] 26 (0, 0))) ∧ Aside0 (Below w.heap.size w wc))
     case first =>
      have H := HC16.out
      clear HC16
      by_cases c18 : a0_1 = 0
      ·rw [if_pos c18] at H
       have c18b0 : (a0_1 == 0) = true := beq_iff_eq.mpr c18
       have c18b1 : (a0_1 != 0) = false := bne_eq_false_iff_eq.mpr c18
       clear c18
       (first | rw [c18b0] | (simp only [i64_w, i32_w]; rw [c18b0]) | skip)
       have H' := Aside0.mk H
       clear H
       go_wp2
       go_meet
       case rel => exact ⟨_, (x5_1), H', ⟨by have := HK1.out; first | omega | exact Nat.le_refl _⟩, ⟨ql_ HO_5.out⟩, ⟨qk_ BK185.out⟩, ⟨qb_ HB.out⟩⟩
      ·rw [if_neg c18] at H
       have c18b0 : (a0_1 == 0) = false := beq_eq_false_iff_ne.mpr c18
       have c18b1 : (a0_1 != 0) = true := bne_iff_ne.mpr c18
       (first | rw [c18b0] | (simp only [i64_w, i32_w]; rw [c18b0]) | skip)
       by_cases c19 : 0 ≤ a0_1
       ·rw [if_pos c19] at H
        have c19b0 : decide (0 ≤ a0_1) = true := decide_eq_true c19
        clear c19
        by_cases c20 : a0_1 < 6
        ·rw [if_pos c20] at H
         have c20b0 : decide (a0_1 < 6) = true := decide_eq_true c20
         clear c20
         by_cases c22 : x5_1.length < 8796093022208
         ·rw [if_pos c22] at H
          have LMc22 := Aside0.mk c22
          clear c22
          obtain ⟨y192, hy192⟩ : ∃ y_ : List ByteArray, y_ = (x5_1 ++ [sec_word a0_1]) := ⟨_, rfl⟩
          replace H : (section_Put.j1 k1 a1 y192 l0_0 a0_1 l0_2 a0_3 a0_4 a0_5) = some r := by first | (rw [hy192]; with_reducible exact H) | (have H2_ := (Option.bind_some _ _).symm.trans H; rw [hy192]; with_reducible exact H2_) | (have H2_ := (Option.bind_some _ _).symm.trans H; with_reducible exact H2_) | with_reducible exact H | (rw [hy192]; exact H) | exact H
          have Ny192 := Aside0.mk hy192
          clear hy192
          have H' := Aside0.mk H
          clear H
          obtain ⟨hcz23_0, hcz23_1, hcz23_2, hcz23_3, hcz23_4, hcz23_5, hfz23_0, hfz23_1, hfz23_2, hfz23_3, hfz23_4, hfz23_5⟩ := cz6_ BK185.out
          have p21 : 0 ≤ (a0_1 : Int) := qd_
          have q21 : (a0_1 : Int) < 6 := qd_
          have ht21 := sec_at hL0 (qb_ HB.out) p21 q21
          replace p21 := eq_true p21
          replace q21 := eq_true q21
          go_wp2_with (first | ((with_reducible refine gate_builtin (b := .append) (xs := #[.tmp 31, .tmp 36]) rfl ?_); at_builtin; refine Kd.R_append Kd.string (w0 := w) w.heap.size rfl (.tmp 31) (.tmp 36) 24 9 (.string ⟨#[]⟩) 16 rfl Tryd.underlying24 info9 rfl (by decide) (by omega) u5 x5_1 (sec_word a0_1) [.string (sec_word a0_1)] (fun _ => True) (fun _ => False) rfl rfl ?aP (fun _ hk => hk.elim) ?aF ?aO ?aB ?aS ?aL ?_; (case aP => exact rfl); (case aB => exact (qb_ HB.out)); (case aF => exact (fun _ _ => trivial)); (case aO => exact (ql_ HO_5.out)); (case aS => exact (below_size (qb_ HB.out))); (case aL => have := LMc22.out; omega); intro v193 w24 ho hb hg hat; rw [← Ny192.out] at ho; have n0_ := Aside0.mk (blk_grown (g := gb185) (o := .cells #[.slice A0_0 l0_0.length c0_0, .int .i64 a0_1, .slice A0_2 l0_2.length c0_2, .bool a0_3, .int .i64 a0_4, .int .i64 a0_5] 26 (0, 0)) (qk_ BK185.out) hg (Kd.R_ne HO_5.out BK185.out (by decide))); have n1_ := Aside0.mk (hb); have n2_ := Aside0.mk (ho); clear BK185; clear HB; clear HO_5; have BK185 := n0_; have HB := n1_; have HO194 := n2_; clear n0_ n1_ n2_; clear ho hb hg hat))
          go_meet
          case rel => exact ⟨_, (y192), H', ⟨by have := HK1.out; first | omega | exact Nat.le_refl _⟩, ⟨ql_ HO194.out⟩, ⟨qk_ BK185.out⟩, ⟨qb_ HB.out⟩⟩
         ·rw [if_neg c22] at H
          exact absurd H (by simp)
        ·rw [if_neg c20] at H
         exact absurd H (by simp)
       ·rw [if_neg c19] at H
        exact absurd H (by simp)
     case rest =>
      clear HC16
      obtain ⟨kq, x5_15, HA, HJ15, HO_5, BK185, HB⟩ := hcut
      cases kq with
      | zero => exact absurd HA.out (by simp [section_Put.j1])
      | succ kj15 =>
       have H := HA.out
       clear HA
       simp only [section_Put.j1] at H
       replace H := Option.bind_eq_some_iff.mp H
       obtain ⟨t195, A250, H⟩ := H
       replace H : (if 1 + t195.size ≤ 9223372036854775807 then ((section_Spec_listed.f l0_0 a0_1 l0_2 a0_3 a0_4 a0_5).bind fun t196 => (if t196 = true then (section_Put.l1 kj15 a1 ((⟨#[91]⟩ : ByteArray) ++ t195) ([] : List ByteArray) l0_2 (l0_2.length : Int) 0 l0_0 a0_1 l0_2 a0_3 a0_4 a0_5) else (section_Put.j3 kj15 a1 ((⟨#[91]⟩ : ByteArray) ++ t195) l0_0 a0_1 l0_2 a0_3 a0_4 a0_5))) else (none)) = some r := H
       have A25 := Aside0.mk A250
       clear A250
       by_cases c26 : 1 + t195.size ≤ 9223372036854775807
       ·rw [if_pos c26] at H
        have c26b0 := eq_true c26
        have c26b1 : decide (1 + t195.size ≤ 9223372036854775807) = true := decide_eq_true c26
        try have c26b2 : (9223372036854775807 < 1 + t195.size) = False := eq_false (Nat.not_lt.2 c26)
        replace H := Option.bind_eq_some_iff.mp H
        obtain ⟨t196, A270, H⟩ := H
        replace H : (if t196 = true then (section_Put.l1 kj15 a1 ((⟨#[91]⟩ : ByteArray) ++ t195) ([] : List ByteArray) l0_2 (l0_2.length : Int) 0 l0_0 a0_1 l0_2 a0_3 a0_4 a0_5) else (section_Put.j3 kj15 a1 ((⟨#[91]⟩ : ByteArray) ++ t195) l0_0 a0_1 l0_2 a0_3 a0_4 a0_5)) = some r := H
        have A27 := Aside0.mk A270
        clear A270
        have HC28 := Aside0.mk H
        clear H
        obtain ⟨Ao29, co29, eo29⟩ := Kd.R_slice HO_5.out
        subst eo29
        go_upto_if 42 with (first | ((with_reducible refine gate_callee (f := 31) rfl ?_); refine goesL_ (some 39) rfl rfl Tryd.func31 (by kernel_rfl) rfl #[.slice Ao29 x5_15.length co29, .string (⟨#[46]⟩ : ByteArray)] rfl qa_ ?_; (with_reducible refine (strings_Join.calls _ _ x5_15 (⟨#[46]⟩ : ByteArray) t195 _ ?side1 ?side2 A25.out).mono ?_); (case side1 => repeat (first | exact (Kd.R_reads' HO_5.out).2.2 | (with_reducible refine Kd.C_alloc ?_ _) | (with_reducible refine Kd.C_drewN ?_ _) | (with_reducible refine Kd.C_drew ?_))); (case side2 => exact (Kd.R_reads' HO_5.out).2.1); rintro e w30 ⟨rfl, hb⟩; refine ⟨_, rfl, ?_⟩; have n0_ := Aside0.mk (Kd.R_below (ql_ HO_5.out) hb); have n1_ := Aside0.mk (blk_below (g := gb185) (o := .cells #[.slice A0_0 l0_0.length c0_0, .int .i64 a0_1, .slice A0_2 l0_2.length c0_2, .bool a0_3, .int .i64 a0_4, .int .i64 a0_5] 26 (0, 0)) (qk_ BK185.out) hb); have n2_ := Aside0.mk (below_step (qb_ HB.out) hb); clear HO_5; clear BK185; clear HB; have HO_5 := n0_; have BK185 := n1_; have HB := n2_; clear n0_ n1_ n2_; (try clear hb); (try clear hb2); (try clear hk); (try clear hi); have hcz31_0 : w30.cell? ⟨gb185, 0, none⟩ = some (.slice A0_0 l0_0.length c0_0) := (blk_cell BK185.out 0).trans rfl; have hcz31_1 : w30.cell? ⟨gb185, 1, none⟩ = some (.int .i64 a0_1) := (blk_cell BK185.out 1).trans rfl; have hcz31_2 : w30.cell? ⟨gb185, 2, none⟩ = some (.slice A0_2 l0_2.length c0_2) := (blk_cell BK185.out 2).trans rfl; have hcz31_3 : w30.cell? ⟨gb185, 3, none⟩ = some (.bool a0_3) := (blk_cell BK185.out 3).trans rfl; have hcz31_4 : w30.cell? ⟨gb185, 4, none⟩ = some (.int .i64 a0_4) := (blk_cell BK185.out 4).trans rfl; have hcz31_5 : w30.cell? ⟨gb185, 5, none⟩ = some (.int .i64 a0_5) := (blk_cell BK185.out 5).trans rfl; have hfz31_0 := blk_frozen BK185.out 0; have hfz31_1 := blk_frozen BK185.out 1; have hfz31_2 := blk_frozen BK185.out 2; have hfz31_3 := blk_frozen BK185.out 3; have hfz31_4 := blk_frozen BK185.out 4; have hfz31_5 := blk_frozen BK185.out 5) | ((with_reducible refine gate_callee (f := 19) rfl ?_); refine goesL_ (some 42) rfl rfl Tryd.func19 (by kernel_rfl) rfl #[.agg #[.slice A0_0 l0_0.length c0_0, .int .i64 a0_1, .slice A0_2 l0_2.length c0_2, .bool a0_3, .int .i64 a0_4, .int .i64 a0_5]] rfl qa_ ?_; (with_reducible refine (section_Spec_listed.calls _ _ l0_0 a0_1 _ _ l0_2 a0_3 a0_4 a0_5 t196 _ ?side1 ?side2 ?side3 ?side4 A27.out).mono ?_); (case side1 => repeat (first | exact (Kd.C_below HR0_0.out HB.out) | (with_reducible refine Kd.C_alloc ?_ _) | (with_reducible refine Kd.C_drewN ?_ _) | (with_reducible refine Kd.C_drew ?_))); (case side2 => exact HC0_0.out); (case side3 => repeat (first | exact (Kd.C_below HR0_2.out HB.out) | (with_reducible refine Kd.C_alloc ?_ _) | (with_reducible refine Kd.C_drewN ?_ _) | (with_reducible refine Kd.C_drew ?_))); (case side4 => exact HC0_2.out); rintro e w32 ⟨rfl, hb⟩; refine ⟨_, rfl, ?_⟩; have n0_ := Aside0.mk (Kd.R_below (ql_ HO_5.out) hb); have n1_ := Aside0.mk (blk_below (g := gb185) (o := .cells #[.slice A0_0 l0_0.length c0_0, .int .i64 a0_1, .slice A0_2 l0_2.length c0_2, .bool a0_3, .int .i64 a0_4, .int .i64 a0_5] 26 (0, 0)) (qk_ BK185.out) hb); have n2_ := Aside0.mk (below_step (qb_ HB.out) hb); clear HO_5; clear BK185; clear HB; have HO_5 := n0_; have BK185 := n1_; have HB := n2_; clear n0_ n1_ n2_; (try clear hb); (try clear hb2); (try clear hk); (try clear hi)))
        (try simp only [Act.put, List.setIfInBounds_toArray, List.set_cons_zero, List.set_cons_succ])
        go_cut [8] (fun v8 wc => ∃ (kq : Nat) (x8_27 : ByteArray), v8 = .string x8_27 ∧ Aside0 (section_Put.j3 kq a1 x8_27 l0_0 a0_1 l0_2 a0_3 a0_4 a0_5 = some r) ∧ Aside0 (kq ≤ kj15) ∧ Aside0 (wc.heap[gb185]? = some (.cells #[(.slice A0_0 l0_0.length c0_0), .int .i64 a0_1, (.slice A0_2 l0_2.length c0_2), .bool a0_3, .int .i64 a0_4, .int .i64 a0_5] 26 (0, 0))) ∧ Aside0 (Below w.heap.size w wc))
        case first =>
         have H := HC28.out
         clear HC28
         by_cases c33 : t196 = true
         ·subst c33
          have H1 : (section_Put.l1 kj15 a1 ((⟨#[91]⟩ : ByteArray) ++ t195) ([] : List ByteArray) l0_2 (l0_2.length : Int) 0 l0_0 a0_1 l0_2 a0_3 a0_4 a0_5) = some r := by rw [if_pos rfl] at H; exact H
          clear H
          have H := H1
          clear H1
          have H' := Aside0.mk H
          clear H
          obtain ⟨hcz34_0, hcz34_1, hcz34_2, hcz34_3, hcz34_4, hcz34_5, hfz34_0, hfz34_1, hfz34_2, hfz34_3, hfz34_4, hfz34_5⟩ := cz6_ BK185.out
          go_wp2
          go_loopg [9, 46] kj15 (fun kq v9 v46 w' => ∃ (x9_3 : List ByteArray) (x46_3 : Int), v46 = .int .i64 x46_3 ∧ Aside0 (section_Put.l1 kq a1 ((⟨#[91]⟩ : ByteArray) ++ t195) x9_3 l0_2 (l0_2.length : Int) x46_3 l0_0 a0_1 l0_2 a0_3 a0_4 a0_5 = some r) ∧ Aside0 (kq ≤ kj15) ∧ Aside0 (Kd.R Kd.string 9 w' w.heap.size (fun _ => True) v9 x9_3) ∧ Aside0 (w'.heap[gb185]? = some (.cells #[(.slice A0_0 l0_0.length c0_0), .int .i64 a0_1, (.slice A0_2 l0_2.length c0_2), .bool a0_3, .int .i64 a0_4, .int .i64 a0_5] 26 (0, 0))) ∧ Aside0 (Below w.heap.size w w'))
          case atStart => exact ⟨(([] : List ByteArray)), (0), qr_, H', ⟨Nat.le_refl _⟩, ⟨qn_⟩, ⟨qk_ BK185.out⟩, ⟨qb_ HB.out⟩⟩
          case round =>
           clear H'
           (try clear c26 c33)
           obtain ⟨x9_3, x46_3, rfl, HA, HK3, HO_9, BK185, HB⟩ := hrel
           cases gk with
           | zero => exact absurd HA.out (by simp [section_Put.l1])
           | succ k3 =>
            have H := HA.out
            clear HA
            simp only [section_Put.l1] at H
            by_cases c35 : x46_3 < (l0_2.length : Int)
            ·rw [if_pos c35] at H
             have c35b0 : decide (x46_3 < (l0_2.length : Int)) = true := decide_eq_true c35
             clear c35
             (first | rw [c35b0] | (simp only [i64_w, i32_w]; rw [c35b0]) | skip)
             by_cases c36 : 0 ≤ x46_3
             ·rw [if_pos c36] at H
              have c36b0 : decide (0 ≤ x46_3) = true := decide_eq_true c36
              clear c36
              by_cases c37 : x46_3 < (l0_2.length : Int)
              ·rw [if_pos c37] at H
               have c37b0 : decide (x46_3 < (l0_2.length : Int)) = true := decide_eq_true c37
               clear c37
               replace H := Option.bind_eq_some_iff.mp H
               obtain ⟨t199, A380, H⟩ := H
               replace H : (if t199 = true then (if x9_3.length < 8796093022208 then (section_Put.l1 k3 a1 ((⟨#[91]⟩ : ByteArray) ++ t195) (x9_3 ++ [rdOf ByteArray.empty l0_2 x46_3]) l0_2 (l0_2.length : Int) (wrap64 (x46_3 + 1)) l0_0 a0_1 l0_2 a0_3 a0_4 a0_5) else (none)) else ((params_Quoted.f k3 (rdOf ByteArray.empty l0_2 x46_3)).bind fun t203 => (if x9_3.length < 8796093022208 then (section_Put.l1 k3 a1 ((⟨#[91]⟩ : ByteArray) ++ t195) (x9_3 ++ [t203]) l0_2 (l0_2.length : Int) (wrap64 (x46_3 + 1)) l0_0 a0_1 l0_2 a0_3 a0_4 a0_5) else (none)))) = some r := H
               have A38 := Aside0.mk A380
               clear A380
               by_cases c39 : t199 = true
               ·subst c39
                have H1 : (if x9_3.length < 8796093022208 then (section_Put.l1 k3 a1 ((⟨#[91]⟩ : ByteArray) ++ t195) (x9_3 ++ [rdOf ByteArray.empty l0_2 x46_3]) l0_2 (l0_2.length : Int) (wrap64 (x46_3 + 1)) l0_0 a0_1 l0_2 a0_3 a0_4 a0_5) else (none)) = some r := by rw [if_pos rfl] at H; exact H
                clear H
                have H := H1
                clear H1
                by_cases c40 : x9_3.length < 8796093022208
                ·rw [if_pos c40] at H
                 have LMc40 := Aside0.mk c40
                 clear c40
                 obtain ⟨y200, hy200⟩ : ∃ y_ : List ByteArray, y_ = (x9_3 ++ [rdOf ByteArray.empty l0_2 x46_3]) := ⟨_, rfl⟩
                 replace H : (section_Put.l1 k3 a1 ((⟨#[91]⟩ : ByteArray) ++ t195) y200 l0_2 (l0_2.length : Int) (wrap64 (x46_3 + 1)) l0_0 a0_1 l0_2 a0_3 a0_4 a0_5) = some r := by first | (rw [hy200]; with_reducible exact H) | (have H2_ := (Option.bind_some _ _).symm.trans H; rw [hy200]; with_reducible exact H2_) | (have H2_ := (Option.bind_some _ _).symm.trans H; with_reducible exact H2_) | with_reducible exact H | (rw [hy200]; exact H) | exact H
                 have Ny200 := Aside0.mk hy200
                 clear hy200
                 have H' := Aside0.mk H
                 clear H
                 have p198 : 0 ≤ (x46_3 : Int) := qd_
                 have q198 : x46_3 < (l0_2.length : Int) := qd_
                 obtain ⟨ad198, e198, hx198_0⟩ := Kd.at_string HR0_2.out x46_3 p198 q198
                 cases e198
                 replace hx198_0 := (HB.out.cell (World.block_lt_of_cell? w _ hx198_0)).trans hx198_0
                 replace p198 := eq_true p198
                 replace q198 := eq_true q198
                 go_wp2_with (first | ((with_reducible refine gate_callee (f := 32) rfl ?_); refine goesL_ (some 51) rfl rfl Tryd.func32 (by kernel_rfl) rfl #[.string (rdOf ByteArray.empty l0_2 x46_3)] rfl qa_ ?_; (with_reducible refine (section_atom.calls k3 (rdOf ByteArray.empty l0_2 x46_3) true _ A38.out).mono ?_); rintro e w41 ⟨rfl, hb⟩; refine ⟨_, rfl, ?_⟩; have n0_ := Aside0.mk (Kd.R_below (ql_ HO_9.out) hb); have n1_ := Aside0.mk (blk_below (g := gb185) (o := .cells #[.slice A0_0 l0_0.length c0_0, .int .i64 a0_1, .slice (some ad198) l0_2.length c0_2, .bool a0_3, .int .i64 a0_4, .int .i64 a0_5] 26 (0, 0)) (qk_ BK185.out) hb); have n2_ := Aside0.mk (below_step (qb_ HB.out) hb); clear HO_9; clear BK185; clear HB; have HO_9 := n0_; have BK185 := n1_; have HB := n2_; clear n0_ n1_ n2_; (try clear hb); (try clear hb2); (try clear hk); (try clear hi)) | ((with_reducible refine gate_builtin (b := .append) (xs := #[.tmp 55, .tmp 57]) rfl ?_); at_builtin; refine Kd.R_append Kd.string (w0 := w) w.heap.size rfl (.tmp 55) (.tmp 57) 24 9 (.string ⟨#[]⟩) 16 rfl Tryd.underlying24 info9 rfl (by decide) (by omega) u9 x9_3 (rdOf ByteArray.empty l0_2 x46_3) [.string (rdOf ByteArray.empty l0_2 x46_3)] (fun _ => True) (fun _ => False) rfl rfl ?aP (fun _ hk => hk.elim) ?aF ?aO ?aB ?aS ?aL ?_; (case aP => exact rfl); (case aB => exact (qb_ HB.out)); (case aF => exact (fun _ _ => trivial)); (case aO => exact (ql_ HO_9.out)); (case aS => exact (below_size (qb_ HB.out))); (case aL => have := LMc40.out; omega); intro v201 w42 ho hb hg hat; rw [← Ny200.out] at ho; have n0_ := Aside0.mk (blk_grown (g := gb185) (o := .cells #[.slice A0_0 l0_0.length c0_0, .int .i64 a0_1, .slice (some ad198) l0_2.length c0_2, .bool a0_3, .int .i64 a0_4, .int .i64 a0_5] 26 (0, 0)) (qk_ BK185.out) hg (Kd.R_ne HO_9.out BK185.out (by decide))); have n1_ := Aside0.mk (hb); have n2_ := Aside0.mk (ho); clear BK185; clear HB; clear HO_9; have BK185 := n0_; have HB := n1_; have HO202 := n2_; clear n0_ n1_ n2_; clear ho hb hg hat))
                 go_roundg k3
                 case measure => have := HK1.out; have := HJ15.out; have := HK3.out; omega
                 case rel => exact ⟨(y200), (wrap64 (x46_3 + 1)), qr_, H', ⟨by have := HK1.out; have := HJ15.out; have := HK3.out; omega⟩, ⟨ql_ HO202.out⟩, ⟨qk_ BK185.out⟩, ⟨qb_ HB.out⟩⟩
                ·rw [if_neg c40] at H
                 exact absurd H (by simp)
               ·replace c39 := Bool.eq_false_iff.mpr c39
                subst c39
                have H1 : ((params_Quoted.f k3 (rdOf ByteArray.empty l0_2 x46_3)).bind fun t203 => (if x9_3.length < 8796093022208 then (section_Put.l1 k3 a1 ((⟨#[91]⟩ : ByteArray) ++ t195) (x9_3 ++ [t203]) l0_2 (l0_2.length : Int) (wrap64 (x46_3 + 1)) l0_0 a0_1 l0_2 a0_3 a0_4 a0_5) else (none))) = some r := by rw [if_neg (show ¬ (false = true) by decide)] at H; exact H
                clear H
                have H := H1
                clear H1
                replace H := Option.bind_eq_some_iff.mp H
                obtain ⟨t203, A430, H⟩ := H
                replace H : (if x9_3.length < 8796093022208 then (section_Put.l1 k3 a1 ((⟨#[91]⟩ : ByteArray) ++ t195) (x9_3 ++ [t203]) l0_2 (l0_2.length : Int) (wrap64 (x46_3 + 1)) l0_0 a0_1 l0_2 a0_3 a0_4 a0_5) else (none)) = some r := H
                have A43 := Aside0.mk A430
                clear A430
                by_cases c44 : x9_3.length < 8796093022208
                ·rw [if_pos c44] at H
                 have LMc44 := Aside0.mk c44
                 clear c44
                 obtain ⟨y204, hy204⟩ : ∃ y_ : List ByteArray, y_ = (x9_3 ++ [t203]) := ⟨_, rfl⟩
                 replace H : (section_Put.l1 k3 a1 ((⟨#[91]⟩ : ByteArray) ++ t195) y204 l0_2 (l0_2.length : Int) (wrap64 (x46_3 + 1)) l0_0 a0_1 l0_2 a0_3 a0_4 a0_5) = some r := by first | (rw [hy204]; with_reducible exact H) | (have H2_ := (Option.bind_some _ _).symm.trans H; rw [hy204]; with_reducible exact H2_) | (have H2_ := (Option.bind_some _ _).symm.trans H; with_reducible exact H2_) | with_reducible exact H | (rw [hy204]; exact H) | exact H
                 have Ny204 := Aside0.mk hy204
                 clear hy204
                 have H' := Aside0.mk H
                 clear H
                 have p198 : 0 ≤ (x46_3 : Int) := qd_
                 have q198 : x46_3 < (l0_2.length : Int) := qd_
                 obtain ⟨ad198, e198, hx198_0⟩ := Kd.at_string HR0_2.out x46_3 p198 q198
                 cases e198
                 replace hx198_0 := (HB.out.cell (World.block_lt_of_cell? w _ hx198_0)).trans hx198_0
                 replace p198 := eq_true p198
                 replace q198 := eq_true q198
                 go_wp2_with (first | ((with_reducible refine gate_callee (f := 32) rfl ?_); refine goesL_ (some 51) rfl rfl Tryd.func32 (by kernel_rfl) rfl #[.string (rdOf ByteArray.empty l0_2 x46_3)] rfl qa_ ?_; (with_reducible refine (section_atom.calls k3 (rdOf ByteArray.empty l0_2 x46_3) false _ A38.out).mono ?_); rintro e w45 ⟨rfl, hb⟩; refine ⟨_, rfl, ?_⟩; have n0_ := Aside0.mk (Kd.R_below (ql_ HO_9.out) hb); have n1_ := Aside0.mk (blk_below (g := gb185) (o := .cells #[.slice A0_0 l0_0.length c0_0, .int .i64 a0_1, .slice (some ad198) l0_2.length c0_2, .bool a0_3, .int .i64 a0_4, .int .i64 a0_5] 26 (0, 0)) (qk_ BK185.out) hb); have n2_ := Aside0.mk (below_step (qb_ HB.out) hb); clear HO_9; clear BK185; clear HB; have HO_9 := n0_; have BK185 := n1_; have HB := n2_; clear n0_ n1_ n2_; (try clear hb); (try clear hb2); (try clear hk); (try clear hi)) | ((with_reducible refine gate_callee (f := 33) rfl ?_); refine goesL_ (some 54) rfl rfl Tryd.func33 (by kernel_rfl) rfl #[.string (rdOf ByteArray.empty l0_2 x46_3)] rfl qa_ ?_; (with_reducible refine (params_Quoted.calls k3 (rdOf ByteArray.empty l0_2 x46_3) t203 _ A43.out).mono ?_); rintro e w46 ⟨rfl, hb⟩; refine ⟨_, rfl, ?_⟩; have n0_ := Aside0.mk (Kd.R_below (ql_ HO_9.out) hb); have n1_ := Aside0.mk (blk_below (g := gb185) (o := .cells #[.slice A0_0 l0_0.length c0_0, .int .i64 a0_1, .slice (some ad198) l0_2.length c0_2, .bool a0_3, .int .i64 a0_4, .int .i64 a0_5] 26 (0, 0)) (qk_ BK185.out) hb); have n2_ := Aside0.mk (below_step (qb_ HB.out) hb); clear HO_9; clear BK185; clear HB; have HO_9 := n0_; have BK185 := n1_; have HB := n2_; clear n0_ n1_ n2_; (try clear hb); (try clear hb2); (try clear hk); (try clear hi)) | ((with_reducible refine gate_builtin (b := .append) (xs := #[.tmp 55, .tmp 57]) rfl ?_); at_builtin; refine Kd.R_append Kd.string (w0 := w) w.heap.size rfl (.tmp 55) (.tmp 57) 24 9 (.string ⟨#[]⟩) 16 rfl Tryd.underlying24 info9 rfl (by decide) (by omega) u9 x9_3 t203 [.string t203] (fun _ => True) (fun _ => False) rfl rfl ?aP (fun _ hk => hk.elim) ?aF ?aO ?aB ?aS ?aL ?_; (case aP => exact rfl); (case aB => exact (qb_ HB.out)); (case aF => exact (fun _ _ => trivial)); (case aO => exact (ql_ HO_9.out)); (case aS => exact (below_size (qb_ HB.out))); (case aL => have := LMc44.out; omega); intro v205 w47 ho hb hg hat; rw [← Ny204.out] at ho; have n0_ := Aside0.mk (blk_grown (g := gb185) (o := .cells #[.slice A0_0 l0_0.length c0_0, .int .i64 a0_1, .slice (some ad198) l0_2.length c0_2, .bool a0_3, .int .i64 a0_4, .int .i64 a0_5] 26 (0, 0)) (qk_ BK185.out) hg (Kd.R_ne HO_9.out BK185.out (by decide))); have n1_ := Aside0.mk (hb); have n2_ := Aside0.mk (ho); clear BK185; clear HB; clear HO_9; have BK185 := n0_; have HB := n1_; have HO206 := n2_; clear n0_ n1_ n2_; clear ho hb hg hat))
                 go_roundg k3
                 case measure => have := HK1.out; have := HJ15.out; have := HK3.out; omega
                 case rel => exact ⟨(y204), (wrap64 (x46_3 + 1)), qr_, H', ⟨by have := HK1.out; have := HJ15.out; have := HK3.out; omega⟩, ⟨ql_ HO206.out⟩, ⟨qk_ BK185.out⟩, ⟨qb_ HB.out⟩⟩
                ·rw [if_neg c44] at H
                 exact absurd H (by simp)
              ·rw [if_neg c37] at H
               exact absurd H (by simp)
             ·rw [if_neg c36] at H
              exact absurd H (by simp)
            ·rw [if_neg c35] at H
             have c35b0 : decide (x46_3 < (l0_2.length : Int)) = false := decide_eq_false c35
             clear c35
             (first | rw [c35b0] | (simp only [i64_w, i32_w]; rw [c35b0]) | skip)
             replace H := Option.bind_eq_some_iff.mp H
             obtain ⟨t197, A480, H⟩ := H
             replace H : (if 2 + t197.size ≤ 9223372036854775807 then (if ((⟨#[32, 40]⟩ : ByteArray) ++ t197).size + 1 ≤ 9223372036854775807 then (if ((⟨#[91]⟩ : ByteArray) ++ t195).size + (((⟨#[32, 40]⟩ : ByteArray) ++ t197) ++ (⟨#[41]⟩ : ByteArray)).size ≤ 9223372036854775807 then (section_Put.j3 k3 a1 (((⟨#[91]⟩ : ByteArray) ++ t195) ++ (((⟨#[32, 40]⟩ : ByteArray) ++ t197) ++ (⟨#[41]⟩ : ByteArray))) l0_0 a0_1 l0_2 a0_3 a0_4 a0_5) else (none)) else (none)) else (none)) = some r := H
             have A48 := Aside0.mk A480
             clear A480
             by_cases c49 : 2 + t197.size ≤ 9223372036854775807
             ·rw [if_pos c49] at H
              have c49b0 := eq_true c49
              have c49b1 : decide (2 + t197.size ≤ 9223372036854775807) = true := decide_eq_true c49
              try have c49b2 : (9223372036854775807 < 2 + t197.size) = False := eq_false (Nat.not_lt.2 c49)
              by_cases c50 : ((⟨#[32, 40]⟩ : ByteArray) ++ t197).size + 1 ≤ 9223372036854775807
              ·rw [if_pos c50] at H
               have c50b0 := eq_true c50
               have c50b1 : decide (((⟨#[32, 40]⟩ : ByteArray) ++ t197).size + 1 ≤ 9223372036854775807) = true := decide_eq_true c50
               try have c50b2 : (9223372036854775807 < ((⟨#[32, 40]⟩ : ByteArray) ++ t197).size + 1) = False := eq_false (Nat.not_lt.2 c50)
               try have c50b4 : (9223372036854775807 < 2 + t197.size + 1) = False := eq_false (Nat.not_lt.2 (by have h_ := c50; simp only [ByteArray.size_append] at h_; exact h_))
               by_cases c51 : ((⟨#[91]⟩ : ByteArray) ++ t195).size + (((⟨#[32, 40]⟩ : ByteArray) ++ t197) ++ (⟨#[41]⟩ : ByteArray)).size ≤ 9223372036854775807
               ·rw [if_pos c51] at H
                have c51b0 := eq_true c51
                have c51b1 : decide (((⟨#[91]⟩ : ByteArray) ++ t195).size + (((⟨#[32, 40]⟩ : ByteArray) ++ t197) ++ (⟨#[41]⟩ : ByteArray)).size ≤ 9223372036854775807) = true := decide_eq_true c51
                try have c51b2 : (9223372036854775807 < ((⟨#[91]⟩ : ByteArray) ++ t195).size + (((⟨#[32, 40]⟩ : ByteArray) ++ t197) ++ (⟨#[41]⟩ : ByteArray)).size) = False := eq_false (Nat.not_lt.2 c51)
                try have c51b4 : (9223372036854775807 < 1 + t195.size + (2 + t197.size + 1)) = False := eq_false (Nat.not_lt.2 (by have h_ := c51; simp only [ByteArray.size_append] at h_; exact h_))
                have H' := Aside0.mk H
                clear H
                obtain ⟨Ao52, co52, eo52⟩ := Kd.R_slice HO_9.out
                subst eo52
                go_wp2_with (first | ((with_reducible refine gate_callee (f := 31) rfl ?_); refine goesL_ (some 62) rfl rfl Tryd.func31 (by kernel_rfl) rfl #[.slice Ao52 x9_3.length co52, .string (⟨#[32]⟩ : ByteArray)] rfl qa_ ?_; (with_reducible refine (strings_Join.calls _ _ x9_3 (⟨#[32]⟩ : ByteArray) t197 _ ?side1 ?side2 A48.out).mono ?_); (case side1 => repeat (first | exact (Kd.R_reads' HO_9.out).2.2 | (with_reducible refine Kd.C_alloc ?_ _) | (with_reducible refine Kd.C_drewN ?_ _) | (with_reducible refine Kd.C_drew ?_))); (case side2 => exact (Kd.R_reads' HO_9.out).2.1); rintro e w53 ⟨rfl, hb⟩; refine ⟨_, rfl, ?_⟩; have n0_ := Aside0.mk (Kd.R_below (ql_ HO_9.out) hb); have n1_ := Aside0.mk (blk_below (g := gb185) (o := .cells #[.slice A0_0 l0_0.length c0_0, .int .i64 a0_1, .slice A0_2 l0_2.length c0_2, .bool a0_3, .int .i64 a0_4, .int .i64 a0_5] 26 (0, 0)) (qk_ BK185.out) hb); have n2_ := Aside0.mk (below_step (qb_ HB.out) hb); clear HO_9; clear BK185; clear HB; have HO_9 := n0_; have BK185 := n1_; have HB := n2_; clear n0_ n1_ n2_; (try clear hb); (try clear hb2); (try clear hk); (try clear hi)))
                go_meet
                case rel => exact ⟨_, (((⟨#[91]⟩ : ByteArray) ++ t195) ++ (((⟨#[32, 40]⟩ : ByteArray) ++ t197) ++ (⟨#[41]⟩ : ByteArray))), qr_, H', ⟨by have := HK1.out; have := HJ15.out; have := HK3.out; first | omega | exact Nat.le_refl _⟩, ⟨qk_ BK185.out⟩, ⟨qb_ HB.out⟩⟩
               ·rw [if_neg c51] at H
                exact absurd H (by simp)
              ·rw [if_neg c50] at H
               exact absurd H (by simp)
             ·rw [if_neg c49] at H
              exact absurd H (by simp)
         ·replace c33 := Bool.eq_false_iff.mpr c33
          subst c33
          have H1 : (section_Put.j3 kj15 a1 ((⟨#[91]⟩ : ByteArray) ++ t195) l0_0 a0_1 l0_2 a0_3 a0_4 a0_5) = some r := by rw [if_neg (show ¬ (false = true) by decide)] at H; exact H
          clear H
          have H := H1
          clear H1
          have H' := Aside0.mk H
          clear H
          go_wp2
          go_meet
          case rel => exact ⟨_, ((⟨#[91]⟩ : ByteArray) ++ t195), qr_, H', ⟨by have := HK1.out; have := HJ15.out; first | omega | exact Nat.le_refl _⟩, ⟨qk_ BK185.out⟩, ⟨qb_ HB.out⟩⟩
        case rest =>
         clear HC28
         obtain ⟨kq, x8_27, rfl, HA, HJ27, BK185, HB⟩ := hcut
         cases kq with
         | zero => exact absurd HA.out (by simp [section_Put.j3])
         | succ kj27 =>
          have H := HA.out
          clear HA
          simp only [section_Put.j3] at H
          by_cases c54 : x8_27.size + 1 ≤ 9223372036854775807
          ·rw [if_pos c54] at H
           have c54b0 := eq_true c54
           have c54b1 : decide (x8_27.size + 1 ≤ 9223372036854775807) = true := decide_eq_true c54
           try have c54b2 : (9223372036854775807 < x8_27.size + 1) = False := eq_false (Nat.not_lt.2 c54)
           by_cases c55 : a0_3 = true
           ·subst c55
            have H1 : ((chars_Digits.f kj27 a0_4).bind fun t207 => (if 1 + t207.size ≤ 9223372036854775807 then (if (x8_27 ++ (⟨#[93]⟩ : ByteArray)).size + ((⟨#[60]⟩ : ByteArray) ++ t207).size ≤ 9223372036854775807 then (if a1 = true then (if ((x8_27 ++ (⟨#[93]⟩ : ByteArray)) ++ ((⟨#[60]⟩ : ByteArray) ++ t207)).size + 1 ≤ 9223372036854775807 then (some (((x8_27 ++ (⟨#[93]⟩ : ByteArray)) ++ ((⟨#[60]⟩ : ByteArray) ++ t207)) ++ (⟨#[62]⟩ : ByteArray))) else (none)) else ((chars_Digits.f kj27 a0_5).bind fun t208 => (if 1 + t208.size ≤ 9223372036854775807 then (if ((x8_27 ++ (⟨#[93]⟩ : ByteArray)) ++ ((⟨#[60]⟩ : ByteArray) ++ t207)).size + ((⟨#[46]⟩ : ByteArray) ++ t208).size ≤ 9223372036854775807 then (if (((x8_27 ++ (⟨#[93]⟩ : ByteArray)) ++ ((⟨#[60]⟩ : ByteArray) ++ t207)) ++ ((⟨#[46]⟩ : ByteArray) ++ t208)).size + 1 ≤ 9223372036854775807 then (some ((((x8_27 ++ (⟨#[93]⟩ : ByteArray)) ++ ((⟨#[60]⟩ : ByteArray) ++ t207)) ++ ((⟨#[46]⟩ : ByteArray) ++ t208)) ++ (⟨#[62]⟩ : ByteArray))) else (none)) else (none)) else (none)))) else (none)) else (none))) = some r := by rw [if_pos rfl] at H; exact H
            clear H
            have H := H1
            clear H1
            replace H := Option.bind_eq_some_iff.mp H
            obtain ⟨t207, A560, H⟩ := H
            replace H : (if 1 + t207.size ≤ 9223372036854775807 then (if (x8_27 ++ (⟨#[93]⟩ : ByteArray)).size + ((⟨#[60]⟩ : ByteArray) ++ t207).size ≤ 9223372036854775807 then (if a1 = true then (if ((x8_27 ++ (⟨#[93]⟩ : ByteArray)) ++ ((⟨#[60]⟩ : ByteArray) ++ t207)).size + 1 ≤ 9223372036854775807 then (some (((x8_27 ++ (⟨#[93]⟩ : ByteArray)) ++ ((⟨#[60]⟩ : ByteArray) ++ t207)) ++ (⟨#[62]⟩ : ByteArray))) else (none)) else ((chars_Digits.f kj27 a0_5).bind fun t208 => (if 1 + t208.size ≤ 9223372036854775807 then (if ((x8_27 ++ (⟨#[93]⟩ : ByteArray)) ++ ((⟨#[60]⟩ : ByteArray) ++ t207)).size + ((⟨#[46]⟩ : ByteArray) ++ t208).size ≤ 9223372036854775807 then (if (((x8_27 ++ (⟨#[93]⟩ : ByteArray)) ++ ((⟨#[60]⟩ : ByteArray) ++ t207)) ++ ((⟨#[46]⟩ : ByteArray) ++ t208)).size + 1 ≤ 9223372036854775807 then (some ((((x8_27 ++ (⟨#[93]⟩ : ByteArray)) ++ ((⟨#[60]⟩ : ByteArray) ++ t207)) ++ ((⟨#[46]⟩ : ByteArray) ++ t208)) ++ (⟨#[62]⟩ : ByteArray))) else (none)) else (none)) else (none)))) else (none)) else (none)) = some r := H
            have A56 := Aside0.mk A560
            clear A560
            by_cases c57 : 1 + t207.size ≤ 9223372036854775807
            ·rw [if_pos c57] at H
             have c57b0 := eq_true c57
             have c57b1 : decide (1 + t207.size ≤ 9223372036854775807) = true := decide_eq_true c57
             try have c57b2 : (9223372036854775807 < 1 + t207.size) = False := eq_false (Nat.not_lt.2 c57)
             by_cases c58 : (x8_27 ++ (⟨#[93]⟩ : ByteArray)).size + ((⟨#[60]⟩ : ByteArray) ++ t207).size ≤ 9223372036854775807
             ·rw [if_pos c58] at H
              have c58b0 := eq_true c58
              have c58b1 : decide ((x8_27 ++ (⟨#[93]⟩ : ByteArray)).size + ((⟨#[60]⟩ : ByteArray) ++ t207).size ≤ 9223372036854775807) = true := decide_eq_true c58
              try have c58b2 : (9223372036854775807 < (x8_27 ++ (⟨#[93]⟩ : ByteArray)).size + ((⟨#[60]⟩ : ByteArray) ++ t207).size) = False := eq_false (Nat.not_lt.2 c58)
              try have c58b4 : (9223372036854775807 < x8_27.size + 1 + (1 + t207.size)) = False := eq_false (Nat.not_lt.2 (by have h_ := c58; simp only [ByteArray.size_append] at h_; exact h_))
              by_cases c59 : a1 = true
              ·subst c59
               have H1 : (if ((x8_27 ++ (⟨#[93]⟩ : ByteArray)) ++ ((⟨#[60]⟩ : ByteArray) ++ t207)).size + 1 ≤ 9223372036854775807 then (some (((x8_27 ++ (⟨#[93]⟩ : ByteArray)) ++ ((⟨#[60]⟩ : ByteArray) ++ t207)) ++ (⟨#[62]⟩ : ByteArray))) else (none)) = some r := by rw [if_pos rfl] at H; exact H
               clear H
               have H := H1
               clear H1
               by_cases c60 : ((x8_27 ++ (⟨#[93]⟩ : ByteArray)) ++ ((⟨#[60]⟩ : ByteArray) ++ t207)).size + 1 ≤ 9223372036854775807
               ·rw [if_pos c60] at H
                have c60b0 := eq_true c60
                have c60b1 : decide (((x8_27 ++ (⟨#[93]⟩ : ByteArray)) ++ ((⟨#[60]⟩ : ByteArray) ++ t207)).size + 1 ≤ 9223372036854775807) = true := decide_eq_true c60
                try have c60b2 : (9223372036854775807 < ((x8_27 ++ (⟨#[93]⟩ : ByteArray)) ++ ((⟨#[60]⟩ : ByteArray) ++ t207)).size + 1) = False := eq_false (Nat.not_lt.2 c60)
                try have c60b4 : (9223372036854775807 < x8_27.size + 1 + (1 + t207.size) + 1) = False := eq_false (Nat.not_lt.2 (by have h_ := c60; simp only [ByteArray.size_append] at h_; exact h_))
                obtain rfl := Option.some.inj H
                obtain ⟨hcz61_0, hcz61_1, hcz61_2, hcz61_3, hcz61_4, hcz61_5, hfz61_0, hfz61_1, hfz61_2, hfz61_3, hfz61_4, hfz61_5⟩ := cz6_ BK185.out
                go_wp2_with (first | ((with_reducible refine gate_callee (f := 30) rfl ?_); refine goesL_ (some 73) rfl rfl Tryd.func30 (by kernel_rfl) rfl #[.int .i64 a0_4] rfl qa_ ?_; (with_reducible refine (chars_Digits.calls kj27 a0_4 t207 _ A56.out).mono ?_); rintro e w62 ⟨rfl, hb⟩; refine ⟨_, rfl, ?_⟩; have n0_ := Aside0.mk (blk_below (g := gb185) (o := .cells #[.slice A0_0 l0_0.length c0_0, .int .i64 a0_1, .slice A0_2 l0_2.length c0_2, .bool true, .int .i64 a0_4, .int .i64 a0_5] 26 (0, 0)) (qk_ BK185.out) hb); have n1_ := Aside0.mk (below_step (qb_ HB.out) hb); clear BK185; clear HB; have BK185 := n0_; have HB := n1_; clear n0_ n1_; (try clear hb); (try clear hb2); (try clear hk); (try clear hi)))
                go_ret
                exact ⟨qw_, qb_ HB.out⟩
               ·rw [if_neg c60] at H
                exact absurd H (by simp)
              ·replace c59 := Bool.eq_false_iff.mpr c59
               subst c59
               have H1 : ((chars_Digits.f kj27 a0_5).bind fun t208 => (if 1 + t208.size ≤ 9223372036854775807 then (if ((x8_27 ++ (⟨#[93]⟩ : ByteArray)) ++ ((⟨#[60]⟩ : ByteArray) ++ t207)).size + ((⟨#[46]⟩ : ByteArray) ++ t208).size ≤ 9223372036854775807 then (if (((x8_27 ++ (⟨#[93]⟩ : ByteArray)) ++ ((⟨#[60]⟩ : ByteArray) ++ t207)) ++ ((⟨#[46]⟩ : ByteArray) ++ t208)).size + 1 ≤ 9223372036854775807 then (some ((((x8_27 ++ (⟨#[93]⟩ : ByteArray)) ++ ((⟨#[60]⟩ : ByteArray) ++ t207)) ++ ((⟨#[46]⟩ : ByteArray) ++ t208)) ++ (⟨#[62]⟩ : ByteArray))) else (none)) else (none)) else (none))) = some r := by rw [if_neg (show ¬ (false = true) by decide)] at H; exact H
               clear H
               have H := H1
               clear H1
               replace H := Option.bind_eq_some_iff.mp H
               obtain ⟨t208, A630, H⟩ := H
               replace H : (if 1 + t208.size ≤ 9223372036854775807 then (if ((x8_27 ++ (⟨#[93]⟩ : ByteArray)) ++ ((⟨#[60]⟩ : ByteArray) ++ t207)).size + ((⟨#[46]⟩ : ByteArray) ++ t208).size ≤ 9223372036854775807 then (if (((x8_27 ++ (⟨#[93]⟩ : ByteArray)) ++ ((⟨#[60]⟩ : ByteArray) ++ t207)) ++ ((⟨#[46]⟩ : ByteArray) ++ t208)).size + 1 ≤ 9223372036854775807 then (some ((((x8_27 ++ (⟨#[93]⟩ : ByteArray)) ++ ((⟨#[60]⟩ : ByteArray) ++ t207)) ++ ((⟨#[46]⟩ : ByteArray) ++ t208)) ++ (⟨#[62]⟩ : ByteArray))) else (none)) else (none)) else (none)) = some r := H
               have A63 := Aside0.mk A630
               clear A630
               by_cases c64 : 1 + t208.size ≤ 9223372036854775807
               ·rw [if_pos c64] at H
                have c64b0 := eq_true c64
                have c64b1 : decide (1 + t208.size ≤ 9223372036854775807) = true := decide_eq_true c64
                try have c64b2 : (9223372036854775807 < 1 + t208.size) = False := eq_false (Nat.not_lt.2 c64)
                by_cases c65 : ((x8_27 ++ (⟨#[93]⟩ : ByteArray)) ++ ((⟨#[60]⟩ : ByteArray) ++ t207)).size + ((⟨#[46]⟩ : ByteArray) ++ t208).size ≤ 9223372036854775807
                ·rw [if_pos c65] at H
                 have c65b0 := eq_true c65
                 have c65b1 : decide (((x8_27 ++ (⟨#[93]⟩ : ByteArray)) ++ ((⟨#[60]⟩ : ByteArray) ++ t207)).size + ((⟨#[46]⟩ : ByteArray) ++ t208).size ≤ 9223372036854775807) = true := decide_eq_true c65
                 try have c65b2 : (9223372036854775807 < ((x8_27 ++ (⟨#[93]⟩ : ByteArray)) ++ ((⟨#[60]⟩ : ByteArray) ++ t207)).size + ((⟨#[46]⟩ : ByteArray) ++ t208).size) = False := eq_false (Nat.not_lt.2 c65)
                 try have c65b4 : (9223372036854775807 < x8_27.size + 1 + (1 + t207.size) + (1 + t208.size)) = False := eq_false (Nat.not_lt.2 (by have h_ := c65; simp only [ByteArray.size_append] at h_; exact h_))
                 by_cases c66 : (((x8_27 ++ (⟨#[93]⟩ : ByteArray)) ++ ((⟨#[60]⟩ : ByteArray) ++ t207)) ++ ((⟨#[46]⟩ : ByteArray) ++ t208)).size + 1 ≤ 9223372036854775807
                 ·rw [if_pos c66] at H
                  have c66b0 := eq_true c66
                  have c66b1 : decide ((((x8_27 ++ (⟨#[93]⟩ : ByteArray)) ++ ((⟨#[60]⟩ : ByteArray) ++ t207)) ++ ((⟨#[46]⟩ : ByteArray) ++ t208)).size + 1 ≤ 9223372036854775807) = true := decide_eq_true c66
                  try have c66b2 : (9223372036854775807 < (((x8_27 ++ (⟨#[93]⟩ : ByteArray)) ++ ((⟨#[60]⟩ : ByteArray) ++ t207)) ++ ((⟨#[46]⟩ : ByteArray) ++ t208)).size + 1) = False := eq_false (Nat.not_lt.2 c66)
                  try have c66b4 : (9223372036854775807 < x8_27.size + 1 + (1 + t207.size) + (1 + t208.size) + 1) = False := eq_false (Nat.not_lt.2 (by have h_ := c66; simp only [ByteArray.size_append] at h_; exact h_))
                  obtain rfl := Option.some.inj H
                  obtain ⟨hcz67_0, hcz67_1, hcz67_2, hcz67_3, hcz67_4, hcz67_5, hfz67_0, hfz67_1, hfz67_2, hfz67_3, hfz67_4, hfz67_5⟩ := cz6_ BK185.out
                  go_wp2_with (first | ((with_reducible refine gate_callee (f := 30) rfl ?_); refine goesL_ (some 73) rfl rfl Tryd.func30 (by kernel_rfl) rfl #[.int .i64 a0_4] rfl qa_ ?_; (with_reducible refine (chars_Digits.calls kj27 a0_4 t207 _ A56.out).mono ?_); rintro e w68 ⟨rfl, hb⟩; refine ⟨_, rfl, ?_⟩; have n0_ := Aside0.mk (blk_below (g := gb185) (o := .cells #[.slice A0_0 l0_0.length c0_0, .int .i64 a0_1, .slice A0_2 l0_2.length c0_2, .bool true, .int .i64 a0_4, .int .i64 a0_5] 26 (0, 0)) (qk_ BK185.out) hb); have n1_ := Aside0.mk (below_step (qb_ HB.out) hb); clear BK185; clear HB; have BK185 := n0_; have HB := n1_; clear n0_ n1_; (try clear hb); (try clear hb2); (try clear hk); (try clear hi); have hcz69_0 : w68.cell? ⟨gb185, 0, none⟩ = some (.slice A0_0 l0_0.length c0_0) := (blk_cell BK185.out 0).trans rfl; have hcz69_1 : w68.cell? ⟨gb185, 1, none⟩ = some (.int .i64 a0_1) := (blk_cell BK185.out 1).trans rfl; have hcz69_2 : w68.cell? ⟨gb185, 2, none⟩ = some (.slice A0_2 l0_2.length c0_2) := (blk_cell BK185.out 2).trans rfl; have hcz69_3 : w68.cell? ⟨gb185, 3, none⟩ = some (.bool true) := (blk_cell BK185.out 3).trans rfl; have hcz69_4 : w68.cell? ⟨gb185, 4, none⟩ = some (.int .i64 a0_4) := (blk_cell BK185.out 4).trans rfl; have hcz69_5 : w68.cell? ⟨gb185, 5, none⟩ = some (.int .i64 a0_5) := (blk_cell BK185.out 5).trans rfl; have hfz69_0 := blk_frozen BK185.out 0; have hfz69_1 := blk_frozen BK185.out 1; have hfz69_2 := blk_frozen BK185.out 2; have hfz69_3 := blk_frozen BK185.out 3; have hfz69_4 := blk_frozen BK185.out 4; have hfz69_5 := blk_frozen BK185.out 5) | ((with_reducible refine gate_callee (f := 30) rfl ?_); refine goesL_ (some 81) rfl rfl Tryd.func30 (by kernel_rfl) rfl #[.int .i64 a0_5] rfl qa_ ?_; (with_reducible refine (chars_Digits.calls kj27 a0_5 t208 _ A63.out).mono ?_); rintro e w70 ⟨rfl, hb⟩; refine ⟨_, rfl, ?_⟩; have n0_ := Aside0.mk (blk_below (g := gb185) (o := .cells #[.slice A0_0 l0_0.length c0_0, .int .i64 a0_1, .slice A0_2 l0_2.length c0_2, .bool true, .int .i64 a0_4, .int .i64 a0_5] 26 (0, 0)) (qk_ BK185.out) hb); have n1_ := Aside0.mk (below_step (qb_ HB.out) hb); clear BK185; clear HB; have BK185 := n0_; have HB := n1_; clear n0_ n1_; (try clear hb); (try clear hb2); (try clear hk); (try clear hi)))
                  go_ret
                  exact ⟨qw_, qb_ HB.out⟩
                 ·rw [if_neg c66] at H
                  exact absurd H (by simp)
                ·rw [if_neg c65] at H
                 exact absurd H (by simp)
               ·rw [if_neg c64] at H
                exact absurd H (by simp)
             ·rw [if_neg c58] at H
              exact absurd H (by simp)
            ·rw [if_neg c57] at H
             exact absurd H (by simp)
           ·replace c55 := Bool.eq_false_iff.mpr c55
            subst c55
            have H1 : (some (x8_27 ++ (⟨#[93]⟩ : ByteArray))) = some r := by rw [if_neg (show ¬ (false = true) by decide)] at H; exact H
            clear H
            have H := H1
            clear H1
            obtain rfl := Option.some.inj H
            obtain ⟨hcz71_0, hcz71_1, hcz71_2, hcz71_3, hcz71_4, hcz71_5, hfz71_0, hfz71_1, hfz71_2, hfz71_3, hfz71_4, hfz71_5⟩ := cz6_ BK185.out
            go_wp2
            go_ret
            exact ⟨qw_, qb_ HB.out⟩
          ·rw [if_neg c54] at H
           exact absurd H (by simp)
       ·rw [if_neg c26] at H
        exact absurd H (by simp)
 ·rw [if_neg c4] at H
  have c4b0 : (t186 == 0) = false := beq_eq_false_iff_ne.mpr c4
  have c4b1 : (t186 != 0) = true := bne_iff_ne.mpr c4
  obtain rfl := Option.some.inj H
  go_enter Tryd.func14, Tryd.ntmps14
  go_wp2_with (first | ((with_reducible refine gate_dst (N := 2) rfl ?_); refine box_event ?hg (N := 2) ?hd (cs := #[.slice A0_0 l0_0.length c0_0, .int .i64 a0_1, .slice A0_2 l0_2.length c0_2, .bool a0_3, .int .i64 a0_4, .int .i64 a0_5]) (t := 26) ?hr ?_; (case hd => rfl); (case hg => rfl); (case hr => first | (go_simp; done) | (go_simp; rfl)); intro gb185 hg w72 hbox hb; have n0_ := Aside0.mk (below_step (qb_ HB.out) hb); have n1_ := Aside0.mk (hbox); have n2_ := Aside0.mk ((by rw [hg]; exact (below_size (qb_ HB.out)) : w.heap.size ≤ gb185)); have n3_ := Aside0.mk ((by rw [hg]; exact (below_size (qb_ HB.out)) : w.heap.size ≤ gb185)); clear HB; have HB := n0_; have BK185 := n1_; have GW185 := n2_; have GE185 := n3_; clear n0_ n1_ n2_ n3_; clear hb hbox hg; have hcz73_0 : w72.cell? ⟨gb185, 0, none⟩ = some (.slice A0_0 l0_0.length c0_0) := (blk_cell BK185.out 0).trans rfl; have hcz73_1 : w72.cell? ⟨gb185, 1, none⟩ = some (.int .i64 a0_1) := (blk_cell BK185.out 1).trans rfl; have hcz73_2 : w72.cell? ⟨gb185, 2, none⟩ = some (.slice A0_2 l0_2.length c0_2) := (blk_cell BK185.out 2).trans rfl; have hcz73_3 : w72.cell? ⟨gb185, 3, none⟩ = some (.bool a0_3) := (blk_cell BK185.out 3).trans rfl; have hcz73_4 : w72.cell? ⟨gb185, 4, none⟩ = some (.int .i64 a0_4) := (blk_cell BK185.out 4).trans rfl; have hcz73_5 : w72.cell? ⟨gb185, 5, none⟩ = some (.int .i64 a0_5) := (blk_cell BK185.out 5).trans rfl; have hfz73_0 := blk_frozen BK185.out 0; have hfz73_1 := blk_frozen BK185.out 1; have hfz73_2 := blk_frozen BK185.out 2; have hfz73_3 := blk_frozen BK185.out 3; have hfz73_4 := blk_frozen BK185.out 4; have hfz73_5 := blk_frozen BK185.out 5) | ((with_reducible refine gate_callee (f := 12) rfl ?_); refine goesL_ (some 13) rfl rfl Tryd.func12 (by kernel_rfl) rfl #[.agg #[.slice A0_0 l0_0.length c0_0, .int .i64 a0_1, .slice A0_2 l0_2.length c0_2, .bool a0_3, .int .i64 a0_4, .int .i64 a0_5]] rfl qa_ ?_; (with_reducible refine (section_Check.calls k _ _ l0_0 a0_1 _ _ l0_2 a0_3 a0_4 a0_5 t186 _ ?side1 ?side2 ?side3 ?side4 A3.out).mono ?_); (case side1 => repeat (first | exact (Kd.C_below HR0_0.out HB.out) | (with_reducible refine Kd.C_alloc ?_ _) | (with_reducible refine Kd.C_drewN ?_ _) | (with_reducible refine Kd.C_drew ?_))); (case side2 => exact HC0_0.out); (case side3 => repeat (first | exact (Kd.C_below HR0_2.out HB.out) | (with_reducible refine Kd.C_alloc ?_ _) | (with_reducible refine Kd.C_drewN ?_ _) | (with_reducible refine Kd.C_drew ?_))); (case side4 => exact HC0_2.out); rintro e w74 ⟨rfl, hb⟩; refine ⟨_, rfl, ?_⟩; have n0_ := Aside0.mk (blk_below (g := gb185) (o := .cells #[.slice A0_0 l0_0.length c0_0, .int .i64 a0_1, .slice A0_2 l0_2.length c0_2, .bool a0_3, .int .i64 a0_4, .int .i64 a0_5] 26 (0, 0)) (qk_ BK185.out) hb); have n1_ := Aside0.mk (below_step (qb_ HB.out) hb); clear BK185; clear HB; have BK185 := n0_; have HB := n1_; clear n0_ n1_; (try clear hb); (try clear hb2); (try clear hk); (try clear hi)))
  go_ret
  exact ⟨qw_, qb_ HB.out⟩

end Go.Proofs.YtbjbagocnnffaaaDoor.P
