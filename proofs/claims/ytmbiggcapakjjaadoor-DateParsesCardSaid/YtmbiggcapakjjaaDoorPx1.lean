-- Written by a program of this session (wip/tools/mk.sh) for this claim: it runs the kit's print with contracts of our own. Lean checks it.
import Derived.Test.YtmbiggcapakjjaaDoorPx0
import Derived.Test.YtmbiggcapakjjaaDoorWRepsOne
import Derived.Test.YtmbiggcapakjjaaDoorZSplit
namespace Go.Proofs.YtmbiggcapakjjaaDoor.P
open Go.RowKit Go.Proofs.YtmbiggcapakjjaaDoorW.PrintWords Go.Proofs.YtmbiggcapakjjaaDoorW.PrintLast Go.Proofs.YtmbiggcapakjjaaDoorW.PrintMore
attribute [-simp] Int.tmod_tmod_of_dvd
attribute [local go_sem] max2_int min2_int max_two min_two max_three min_three max_four min_four   -- for this text's walks alone
set_option linter.unusedVariables false
set_option linter.unusedSimpArgs false

/-! ### chars_Blank: function 46 -/
def chars_Blank.f (a0 : Int) : Option (Bool) := if a0 = 32 then (some true) else (some (a0 == 9))
set_option maxHeartbeats 8000000 in
set_option maxRecDepth 100000 in
theorem chars_Blank.calls (a0 : Int) (r : Bool) (w : World) (h : chars_Blank.f a0 = some r) :
  Calls Tryd.prog 46 #[.int .u8 a0] w fun e w' => e = .returned (.bool r) ∧ Drawn0 w w' := by
 have H : (if a0 = 32 then (some true) else (some (a0 == 9))) = some r := h
 clear h
 by_cases c2 : a0 = 32
 ·rw [if_pos c2] at H
  have c2b0 : (a0 == 32) = true := beq_iff_eq.mpr c2
  have c2b1 : (a0 != 32) = false := bne_eq_false_iff_eq.mpr c2
  clear c2
  obtain rfl := Option.some.inj H
  go_enter Tryd.func46, Tryd.ntmps46
  go_wp2
  go_ret
  exact ⟨by first | rfl | (simp; done) | (simp [*]; done), by repeat (first | exact Drawn0.refl _ | apply Drawn0.step)⟩
 ·rw [if_neg c2] at H
  have c2b0 : (a0 == 32) = false := beq_eq_false_iff_ne.mpr c2
  have c2b1 : (a0 != 32) = true := bne_iff_ne.mpr c2
  obtain rfl := Option.some.inj H
  go_enter Tryd.func46, Tryd.ntmps46
  go_wp2
  go_ret
  exact ⟨by first | rfl | (simp; done) | (simp [*]; done), by repeat (first | exact Drawn0.refl _ | apply Drawn0.step)⟩

/-! ### date_parts: function 18 -/
mutual
def date_parts.l0 : Nat → ByteArray → List ByteArray → Int → Int → Option (List ByteArray)
 | 0, _, _, _, _ => none
 | k + 1, x0, x3, x4, x5 => if x5 ≤ (x0.size : Int) then (if x5 < (x0.size : Int) then (if 0 ≤ x5 then ((chars_Blank.f (bt x0 x5)).bind fun t101 => (date_parts.j1 k x0 x3 x4 x5 (!t101))) else (none)) else (date_parts.j1 k x0 x3 x4 x5 false)) else (some x3)
def date_parts.j1 : Nat → ByteArray → List ByteArray → Int → Int → Bool → Option (List ByteArray)
 | 0, _, _, _, _, _ => none
 | k + 1, x0, x3, x4, x5, x6 => if x6 = true then (date_parts.j2 k x0 x3 x4 x5 x6 (decide (x4 < 0))) else (date_parts.j2 k x0 x3 x4 x5 x6 false)
def date_parts.j2 : Nat → ByteArray → List ByteArray → Int → Int → Bool → Bool → Option (List ByteArray)
 | 0, _, _, _, _, _, _ => none
 | k + 1, x0, x3, x4, x5, x6, x24 => if x24 = true then (date_parts.l0 k x0 x3 x5 (wrap64 (x5 + 1))) else (if x6 = true then (date_parts.l0 k x0 x3 x4 (wrap64 (x5 + 1))) else (if x4 ≥ 0 then (if 0 ≤ x4 then (if x4 ≤ x5 then (if x5 ≤ (x0.size : Int) then (if x3.length < 8796093022208 then (date_parts.l0 k x0 (x3 ++ [x0.extract (x4 : Int).toNat (x5 : Int).toNat]) (-1) (wrap64 (x5 + 1))) else (none)) else (none)) else (none)) else (none)) else (date_parts.l0 k x0 x3 x4 (wrap64 (x5 + 1)))))
end
def date_parts.f (k : Nat) (a0 : ByteArray) : Option (List ByteArray) := date_parts.l0 k a0 ([] : List ByteArray) (-1) 0
theorem date_parts.mono_l : ∀ k, (∀ y0 y1 y2 y3, LeO (date_parts.l0 k y0 y1 y2 y3) (date_parts.l0 (k + 1) y0 y1 y2 y3)) ∧ (∀ y0 y1 y2 y3 y4, LeO (date_parts.j1 k y0 y1 y2 y3 y4) (date_parts.j1 (k + 1) y0 y1 y2 y3 y4)) ∧ (∀ y0 y1 y2 y3 y4 y5, LeO (date_parts.j2 k y0 y1 y2 y3 y4 y5) (date_parts.j2 (k + 1) y0 y1 y2 y3 y4 y5))
 | 0 => ⟨fun _ _ _ _ r h => by simp [date_parts.l0] at h, fun _ _ _ _ _ r h => by simp [date_parts.j1] at h, fun _ _ _ _ _ _ r h => by simp [date_parts.j2] at h⟩
 | k + 1 => by
  obtain ⟨ih0, ih1, ih2⟩ := date_parts.mono_l k
  refine ⟨?_, ?_, ?_⟩
  ·intro y0 y1 y2 y3
   unfold date_parts.l0
   repeat' first
   | (with_reducible exact ih0 _ _ _ _)
   | (with_reducible exact ih1 _ _ _ _ _)
   | (with_reducible exact ih2 _ _ _ _ _ _)
   | (with_reducible exact LeO.refl _)
   | (with_reducible exact LeO.none _)
   | (with_reducible refine LeO.ite ?_ ?_)
   | (with_reducible refine LeO.bind ?_ (fun _ => ?_))
   | exact ih0 _ _ _ _
   | exact ih1 _ _ _ _ _
   | exact ih2 _ _ _ _ _ _
   | exact LeO.none _
   | refine LeO.ite ?_ ?_
   | refine LeO.bind ?_ (fun _ => ?_)
  ·intro y0 y1 y2 y3 y4
   unfold date_parts.j1
   repeat' first
   | (with_reducible exact ih0 _ _ _ _)
   | (with_reducible exact ih1 _ _ _ _ _)
   | (with_reducible exact ih2 _ _ _ _ _ _)
   | (with_reducible exact LeO.refl _)
   | (with_reducible exact LeO.none _)
   | (with_reducible refine LeO.ite ?_ ?_)
   | (with_reducible refine LeO.bind ?_ (fun _ => ?_))
   | exact ih0 _ _ _ _
   | exact ih1 _ _ _ _ _
   | exact ih2 _ _ _ _ _ _
   | exact LeO.none _
   | refine LeO.ite ?_ ?_
   | refine LeO.bind ?_ (fun _ => ?_)
  ·intro y0 y1 y2 y3 y4 y5
   unfold date_parts.j2
   repeat' first
   | (with_reducible exact ih0 _ _ _ _)
   | (with_reducible exact ih1 _ _ _ _ _)
   | (with_reducible exact ih2 _ _ _ _ _ _)
   | (with_reducible exact LeO.refl _)
   | (with_reducible exact LeO.none _)
   | (with_reducible refine LeO.ite ?_ ?_)
   | (with_reducible refine LeO.bind ?_ (fun _ => ?_))
   | exact ih0 _ _ _ _
   | exact ih1 _ _ _ _ _
   | exact ih2 _ _ _ _ _ _
   | exact LeO.none _
   | refine LeO.ite ?_ ?_
   | refine LeO.bind ?_ (fun _ => ?_)
theorem date_parts.mono : ∀ a0 k, LeO (date_parts.f k a0) (date_parts.f (k + 1) a0) := by
 intro a0 k
 obtain ⟨ih0, ih1, ih2⟩ := date_parts.mono_l k
 unfold date_parts.f
 repeat' first
   | (with_reducible exact ih0 _ _ _ _)
   | (with_reducible exact ih1 _ _ _ _ _)
   | (with_reducible exact ih2 _ _ _ _ _ _)
   | (with_reducible exact LeO.refl _)
   | (with_reducible exact LeO.none _)
   | (with_reducible refine LeO.ite ?_ ?_)
   | (with_reducible refine LeO.bind ?_ (fun _ => ?_))
   | exact ih0 _ _ _ _
   | exact ih1 _ _ _ _ _
   | exact ih2 _ _ _ _ _ _
   | exact LeO.none _
   | refine LeO.ite ?_ ?_
   | refine LeO.bind ?_ (fun _ => ?_)
set_option maxHeartbeats 8000000 in
set_option maxRecDepth 100000 in
theorem date_parts.calls (k : Nat) (a0 : ByteArray) (r : List ByteArray) (w : World) (h : date_parts.f k a0 = some r) :
  Calls Tryd.prog 18 #[.string a0] w fun e w' => ∃ v0_ : Value, e = .returned (v0_) ∧ Kd.R Kd.string 9 w' w.heap.size (fun _ => True) v0_ r ∧ Below w.heap.size w w' := by
 have HB := Aside0.mk (Below.refl w.heap.size w)
 have H : (date_parts.l0 k a0 ([] : List ByteArray) (-1) 0) = some r := h
 clear h
 have H' := Aside0.mk H
 clear H
 go_enter Tryd.func18, Tryd.ntmps18
 go_wp2
 go_loopg [3, 4, 5] k (fun kq v3 v4 v5 w' => ∃ (x3_1 : List ByteArray) (x4_1 : Int) (x5_1 : Int), v4 = .int .i64 x4_1 ∧ v5 = .int .i64 x5_1 ∧ Aside0 (date_parts.l0 kq a0 x3_1 x4_1 x5_1 = some r) ∧ Aside0 (kq ≤ k) ∧ Aside0 (Kd.R Kd.string 9 w' w.heap.size (fun _ => True) v3 x3_1) ∧ Aside0 (Below w.heap.size w w'))
 case atStart => exact ⟨(([] : List ByteArray)), ((-1)), (0), qr_, qr_, H', ⟨Nat.le_refl _⟩, ⟨qn_⟩, ⟨qb_ HB.out⟩⟩
 case round =>
  clear H'
  obtain ⟨x3_1, x4_1, x5_1, rfl, rfl, HA, HK1, HO_3, HB⟩ := hrel
  cases gk with
  | zero => exact absurd HA.out (by simp [date_parts.l0])
  | succ k1 =>
   have H := HA.out
   clear HA
   simp only [date_parts.l0] at H
   by_cases c2 : x5_1 ≤ (a0.size : Int)
   ·rw [if_pos c2] at H
    have c2b0 : decide (x5_1 ≤ (a0.size : Int)) = true := decide_eq_true c2
    clear c2
    have HC3 := Aside0.mk H
    clear H
    go_upto_region 6 with (fail)
    go_cut [6] (fun v6 wc => ∃ (kq : Nat) (x6_2 : Bool), v6 = .bool x6_2 ∧ Aside0 (date_parts.j1 kq a0 x3_1 x4_1 x5_1 x6_2 = some r) ∧ Aside0 (kq ≤ k1) ∧ Aside0 (Kd.R Kd.string 9 wc w.heap.size (fun _ => True) u3 x3_1) ∧ Aside0 (Below w.heap.size w wc))
    case first =>
     have H := HC3.out
     clear HC3
     by_cases c4 : x5_1 < (a0.size : Int)
     ·rw [if_pos c4] at H
      have c4b0 : decide (x5_1 < (a0.size : Int)) = true := decide_eq_true c4
      clear c4
      (first | rw [c4b0] | (simp only [i64_w, i32_w]; rw [c4b0]) | skip)
      by_cases c5 : 0 ≤ x5_1
      ·rw [if_pos c5] at H
       have c5b0 : decide (0 ≤ x5_1) = true := decide_eq_true c5
       clear c5
       replace H := Option.bind_eq_some_iff.mp H
       obtain ⟨t101, A70, H⟩ := H
       replace H : (date_parts.j1 k1 a0 x3_1 x4_1 x5_1 (!t101)) = some r := H
       have A7 := Aside0.mk A70
       clear A70
       have H' := Aside0.mk H
       clear H
       have p6 : 0 ≤ (x5_1 : Int) := qd_
       have q6 : x5_1 < (a0.size : Int) := qd_
       have hx6 := bt_at a0 x5_1
       replace p6 := eq_true p6
       replace q6 := eq_true q6
       go_wp2_with (first | (go_at_call 46; (with_reducible refine (chars_Blank.calls (bt a0 x5_1) t101 _ A7.out).mono ?_); rintro e w' ⟨rfl, ⟨nd, rfl⟩⟩))
       go_meet
       case rel => exact ⟨_, (!t101), qr_, H', ⟨by have := HK1.out; first | omega | exact Nat.le_refl _⟩, ⟨ql_ HO_3.out⟩, ⟨qb_ HB.out⟩⟩
      ·rw [if_neg c5] at H
       exact absurd H (by simp)
     ·rw [if_neg c4] at H
      have c4b0 : decide (x5_1 < (a0.size : Int)) = false := decide_eq_false c4
      clear c4
      (first | rw [c4b0] | (simp only [i64_w, i32_w]; rw [c4b0]) | skip)
      have H' := Aside0.mk H
      clear H
      go_wp2
      go_meet
      case rel => exact ⟨_, (false), qr_, H', ⟨by have := HK1.out; first | omega | exact Nat.le_refl _⟩, ⟨ql_ HO_3.out⟩, ⟨qb_ HB.out⟩⟩
    case rest =>
     clear HC3
     obtain ⟨kq, x6_2, rfl, HA, HJ2, HO_3, HB⟩ := hcut
     cases kq with
     | zero => exact absurd HA.out (by simp [date_parts.j1])
     | succ kj2 =>
      have H := HA.out
      clear HA
      simp only [date_parts.j1] at H
      have HC8 := Aside0.mk H
      clear H
      go_upto_region 7 with (fail)
      go_cut [24] (fun v24 wc => ∃ (kq : Nat) (x24_7 : Bool), v24 = .bool x24_7 ∧ Aside0 (date_parts.j2 kq a0 x3_1 x4_1 x5_1 x6_2 x24_7 = some r) ∧ Aside0 (kq ≤ kj2) ∧ Aside0 (Kd.R Kd.string 9 wc w.heap.size (fun _ => True) u3 x3_1) ∧ Aside0 (Below w.heap.size w wc))
      case first =>
       have H := HC8.out
       clear HC8
       by_cases c9 : x6_2 = true
       ·subst c9
        have H1 : (date_parts.j2 kj2 a0 x3_1 x4_1 x5_1 true (decide (x4_1 < 0))) = some r := by rw [if_pos rfl] at H; exact H
        clear H
        have H := H1
        clear H1
        have H' := Aside0.mk H
        clear H
        go_wp2
        go_meet
        case rel => exact ⟨_, (decide (x4_1 < 0)), qr_, H', ⟨by have := HK1.out; have := HJ2.out; first | omega | exact Nat.le_refl _⟩, ⟨ql_ HO_3.out⟩, ⟨qb_ HB.out⟩⟩
       ·replace c9 := Bool.eq_false_iff.mpr c9
        subst c9
        have H1 : (date_parts.j2 kj2 a0 x3_1 x4_1 x5_1 false false) = some r := by rw [if_neg (show ¬ (false = true) by decide)] at H; exact H
        clear H
        have H := H1
        clear H1
        have H' := Aside0.mk H
        clear H
        go_wp2
        go_meet
        case rel => exact ⟨_, (false), qr_, H', ⟨by have := HK1.out; have := HJ2.out; first | omega | exact Nat.le_refl _⟩, ⟨ql_ HO_3.out⟩, ⟨qb_ HB.out⟩⟩
      case rest =>
       clear HC8
       obtain ⟨kq, x24_7, rfl, HA, HJ7, HO_3, HB⟩ := hcut
       cases kq with
       | zero => exact absurd HA.out (by simp [date_parts.j2])
       | succ kj7 =>
        have H := HA.out
        clear HA
        simp only [date_parts.j2] at H
        by_cases c10 : x24_7 = true
        ·subst c10
         have H1 : (date_parts.l0 kj7 a0 x3_1 x5_1 (wrap64 (x5_1 + 1))) = some r := by rw [if_pos rfl] at H; exact H
         clear H
         have H := H1
         clear H1
         have H' := Aside0.mk H
         clear H
         go_wp2
         go_roundg kj7
         case measure => have := HK1.out; have := HJ2.out; have := HJ7.out; omega
         case rel => exact ⟨(x3_1), (x5_1), (wrap64 (x5_1 + 1)), qr_, qr_, H', ⟨by have := HK1.out; have := HJ2.out; have := HJ7.out; omega⟩, ⟨ql_ HO_3.out⟩, ⟨qb_ HB.out⟩⟩
        ·replace c10 := Bool.eq_false_iff.mpr c10
         subst c10
         have H1 : (if x6_2 = true then (date_parts.l0 kj7 a0 x3_1 x4_1 (wrap64 (x5_1 + 1))) else (if x4_1 ≥ 0 then (if 0 ≤ x4_1 then (if x4_1 ≤ x5_1 then (if x5_1 ≤ (a0.size : Int) then (if x3_1.length < 8796093022208 then (date_parts.l0 kj7 a0 (x3_1 ++ [a0.extract (x4_1 : Int).toNat (x5_1 : Int).toNat]) (-1) (wrap64 (x5_1 + 1))) else (none)) else (none)) else (none)) else (none)) else (date_parts.l0 kj7 a0 x3_1 x4_1 (wrap64 (x5_1 + 1))))) = some r := by rw [if_neg (show ¬ (false = true) by decide)] at H; exact H
         clear H
         have H := H1
         clear H1
         by_cases c11 : x6_2 = true
         ·subst c11
          have H1 : (date_parts.l0 kj7 a0 x3_1 x4_1 (wrap64 (x5_1 + 1))) = some r := by rw [if_pos rfl] at H; exact H
          clear H
          have H := H1
          clear H1
          have H' := Aside0.mk H
          clear H
          go_wp2
          go_roundg kj7
          case measure => have := HK1.out; have := HJ2.out; have := HJ7.out; omega
          case rel => exact ⟨(x3_1), (x4_1), (wrap64 (x5_1 + 1)), qr_, qr_, H', ⟨by have := HK1.out; have := HJ2.out; have := HJ7.out; omega⟩, ⟨ql_ HO_3.out⟩, ⟨qb_ HB.out⟩⟩
         ·replace c11 := Bool.eq_false_iff.mpr c11
          subst c11
          have H1 : (if x4_1 ≥ 0 then (if 0 ≤ x4_1 then (if x4_1 ≤ x5_1 then (if x5_1 ≤ (a0.size : Int) then (if x3_1.length < 8796093022208 then (date_parts.l0 kj7 a0 (x3_1 ++ [a0.extract (x4_1 : Int).toNat (x5_1 : Int).toNat]) (-1) (wrap64 (x5_1 + 1))) else (none)) else (none)) else (none)) else (none)) else (date_parts.l0 kj7 a0 x3_1 x4_1 (wrap64 (x5_1 + 1)))) = some r := by rw [if_neg (show ¬ (false = true) by decide)] at H; exact H
          clear H
          have H := H1
          clear H1
          by_cases c12 : x4_1 ≥ 0
          ·rw [if_pos c12] at H
           have c12b0 : decide (0 ≤ x4_1) = true := decide_eq_true c12
           clear c12
           by_cases c13 : 0 ≤ x4_1
           ·rw [if_pos c13] at H
            have c13b0 := eq_true c13
            have c13b1 : decide (0 ≤ x4_1) = true := decide_eq_true c13
            clear c13
            by_cases c14 : x4_1 ≤ x5_1
            ·rw [if_pos c14] at H
             have c14b0 := eq_true c14
             have c14b1 : decide (x4_1 ≤ x5_1) = true := decide_eq_true c14
             clear c14
             by_cases c15 : x5_1 ≤ (a0.size : Int)
             ·rw [if_pos c15] at H
              have c15b0 := eq_true c15
              have c15b1 : decide (x5_1 ≤ (a0.size : Int)) = true := decide_eq_true c15
              clear c15
              by_cases c16 : x3_1.length < 8796093022208
              ·rw [if_pos c16] at H
               have LMc16 := Aside0.mk c16
               clear c16
               obtain ⟨y102, hy102⟩ : ∃ y_ : List ByteArray, y_ = (x3_1 ++ [a0.extract (x4_1 : Int).toNat (x5_1 : Int).toNat]) := ⟨_, rfl⟩
               replace H : (date_parts.l0 kj7 a0 y102 (-1) (wrap64 (x5_1 + 1))) = some r := by first | (rw [hy102]; with_reducible exact H) | (have H2_ := (Option.bind_some _ _).symm.trans H; rw [hy102]; with_reducible exact H2_) | (have H2_ := (Option.bind_some _ _).symm.trans H; with_reducible exact H2_) | with_reducible exact H | (rw [hy102]; exact H) | exact H
               have Ny102 := Aside0.mk hy102
               clear hy102
               have H' := Aside0.mk H
               clear H
               go_wp2_with (first | ((with_reducible refine gate_builtin (b := .append) (xs := #[.tmp 38, .tmp 43]) rfl ?_); at_builtin; refine Kd.R_append Kd.string (w0 := w) w.heap.size rfl (.tmp 38) (.tmp 43) 43 9 (.string ⟨#[]⟩) 16 rfl Tryd.underlying43 info9 rfl (by decide) (by omega) u3 x3_1 (a0.extract (x4_1 : Int).toNat (x5_1 : Int).toNat) [.string (a0.extract (x4_1 : Int).toNat (x5_1 : Int).toNat)] (fun _ => True) (fun _ => False) rfl rfl ?aP (fun _ hk => hk.elim) ?aF ?aO ?aB ?aS ?aL ?_; (case aP => exact rfl); (case aB => exact (qb_ HB.out)); (case aF => exact (fun _ _ => trivial)); (case aO => exact (ql_ HO_3.out)); (case aS => exact (below_size (qb_ HB.out))); (case aL => have := LMc16.out; omega); intro v103 w17 ho hb hg hat; rw [← Ny102.out] at ho; have n0_ := Aside0.mk (hb); have n1_ := Aside0.mk (ho); clear HB; clear HO_3; have HB := n0_; have HO104 := n1_; clear n0_ n1_; clear ho hb hg hat))
               go_roundg kj7
               case measure => have := HK1.out; have := HJ2.out; have := HJ7.out; omega
               case rel => exact ⟨(y102), ((-1)), (wrap64 (x5_1 + 1)), qr_, qr_, H', ⟨by have := HK1.out; have := HJ2.out; have := HJ7.out; omega⟩, ⟨ql_ HO104.out⟩, ⟨qb_ HB.out⟩⟩
              ·rw [if_neg c16] at H
               exact absurd H (by simp)
             ·rw [if_neg c15] at H
              exact absurd H (by simp)
            ·rw [if_neg c14] at H
             exact absurd H (by simp)
           ·rw [if_neg c13] at H
            exact absurd H (by simp)
          ·rw [if_neg c12] at H
           have c12b0 : decide (0 ≤ x4_1) = false := decide_eq_false c12
           clear c12
           have H' := Aside0.mk H
           clear H
           go_wp2
           go_roundg kj7
           case measure => have := HK1.out; have := HJ2.out; have := HJ7.out; omega
           case rel => exact ⟨(x3_1), (x4_1), (wrap64 (x5_1 + 1)), qr_, qr_, H', ⟨by have := HK1.out; have := HJ2.out; have := HJ7.out; omega⟩, ⟨ql_ HO_3.out⟩, ⟨qb_ HB.out⟩⟩
   ·rw [if_neg c2] at H
    have c2b0 : decide (x5_1 ≤ (a0.size : Int)) = false := decide_eq_false c2
    clear c2
    obtain rfl := Option.some.inj H
    go_wp2
    go_ret
    exact ⟨_, qw_, ql_ HO_3.out, qb_ HB.out⟩

/-! ### date_bare: function 19 -/
mutual
def date_bare.l0 : Nat → ByteArray → List Int → Int → Int → Option (ByteArray)
 | 0, _, _, _, _ => none
 | k + 1, x0, x3, x4, x5 => if x5 < (x0.size : Int) then (if 0 ≤ x5 then (if x4 > 0 then (date_bare.j1 k x0 x3 x4 x5 (bt x0 x5) ((bt x0 x5) == 92)) else (date_bare.j1 k x0 x3 x4 x5 (bt x0 x5) false)) else (none)) else (some (strOfNums x3))
def date_bare.j1 : Nat → ByteArray → List Int → Int → Int → Int → Bool → Option (ByteArray)
 | 0, _, _, _, _, _, _ => none
 | k + 1, x0, x3, x4, x5, x6, x16 => if x16 = true then (date_bare.l0 k x0 x3 x4 (wrap64 ((wrap64 (x5 + 1)) + 1))) else (if x6 = 40 then (if x3.length < 140737488355328 then (date_bare.l0 k x0 (x3 ++ [32]) (wrap64 (x4 + 1)) (wrap64 (x5 + 1))) else (none)) else (if x4 > 0 then (date_bare.j2 k x0 x3 x4 x5 x6 (x6 == 41)) else (date_bare.j2 k x0 x3 x4 x5 x6 false)))
def date_bare.j2 : Nat → ByteArray → List Int → Int → Int → Int → Bool → Option (ByteArray)
 | 0, _, _, _, _, _, _ => none
 | k + 1, x0, x3, x4, x5, x6, x33 => if x33 = true then (date_bare.l0 k x0 x3 (wrap64 (x4 - 1)) (wrap64 (x5 + 1))) else (if x4 = 0 then (if x3.length < 140737488355328 then (date_bare.l0 k x0 (x3 ++ [x6]) x4 (wrap64 (x5 + 1))) else (none)) else (date_bare.l0 k x0 x3 x4 (wrap64 (x5 + 1))))
end
def date_bare.f (k : Nat) (a0 : ByteArray) : Option (ByteArray) := date_bare.l0 k a0 ([] : List Int) 0 0
theorem date_bare.mono_l : ∀ k, (∀ y0 y1 y2 y3, LeO (date_bare.l0 k y0 y1 y2 y3) (date_bare.l0 (k + 1) y0 y1 y2 y3)) ∧ (∀ y0 y1 y2 y3 y4 y5, LeO (date_bare.j1 k y0 y1 y2 y3 y4 y5) (date_bare.j1 (k + 1) y0 y1 y2 y3 y4 y5)) ∧ (∀ y0 y1 y2 y3 y4 y5, LeO (date_bare.j2 k y0 y1 y2 y3 y4 y5) (date_bare.j2 (k + 1) y0 y1 y2 y3 y4 y5))
 | 0 => ⟨fun _ _ _ _ r h => by simp [date_bare.l0] at h, fun _ _ _ _ _ _ r h => by simp [date_bare.j1] at h, fun _ _ _ _ _ _ r h => by simp [date_bare.j2] at h⟩
 | k + 1 => by
  obtain ⟨ih0, ih1, ih2⟩ := date_bare.mono_l k
  refine ⟨?_, ?_, ?_⟩
  ·intro y0 y1 y2 y3
   unfold date_bare.l0
   repeat' first
   | (with_reducible exact ih0 _ _ _ _)
   | (with_reducible exact ih1 _ _ _ _ _ _)
   | (with_reducible exact ih2 _ _ _ _ _ _)
   | (with_reducible exact LeO.refl _)
   | (with_reducible exact LeO.none _)
   | (with_reducible refine LeO.ite ?_ ?_)
   | (with_reducible refine LeO.bind ?_ (fun _ => ?_))
   | exact ih0 _ _ _ _
   | exact ih1 _ _ _ _ _ _
   | exact ih2 _ _ _ _ _ _
   | exact LeO.none _
   | refine LeO.ite ?_ ?_
   | refine LeO.bind ?_ (fun _ => ?_)
  ·intro y0 y1 y2 y3 y4 y5
   unfold date_bare.j1
   repeat' first
   | (with_reducible exact ih0 _ _ _ _)
   | (with_reducible exact ih1 _ _ _ _ _ _)
   | (with_reducible exact ih2 _ _ _ _ _ _)
   | (with_reducible exact LeO.refl _)
   | (with_reducible exact LeO.none _)
   | (with_reducible refine LeO.ite ?_ ?_)
   | (with_reducible refine LeO.bind ?_ (fun _ => ?_))
   | exact ih0 _ _ _ _
   | exact ih1 _ _ _ _ _ _
   | exact ih2 _ _ _ _ _ _
   | exact LeO.none _
   | refine LeO.ite ?_ ?_
   | refine LeO.bind ?_ (fun _ => ?_)
  ·intro y0 y1 y2 y3 y4 y5
   unfold date_bare.j2
   repeat' first
   | (with_reducible exact ih0 _ _ _ _)
   | (with_reducible exact ih1 _ _ _ _ _ _)
   | (with_reducible exact ih2 _ _ _ _ _ _)
   | (with_reducible exact LeO.refl _)
   | (with_reducible exact LeO.none _)
   | (with_reducible refine LeO.ite ?_ ?_)
   | (with_reducible refine LeO.bind ?_ (fun _ => ?_))
   | exact ih0 _ _ _ _
   | exact ih1 _ _ _ _ _ _
   | exact ih2 _ _ _ _ _ _
   | exact LeO.none _
   | refine LeO.ite ?_ ?_
   | refine LeO.bind ?_ (fun _ => ?_)
theorem date_bare.mono : ∀ a0 k, LeO (date_bare.f k a0) (date_bare.f (k + 1) a0) := by
 intro a0 k
 obtain ⟨ih0, ih1, ih2⟩ := date_bare.mono_l k
 unfold date_bare.f
 repeat' first
   | (with_reducible exact ih0 _ _ _ _)
   | (with_reducible exact ih1 _ _ _ _ _ _)
   | (with_reducible exact ih2 _ _ _ _ _ _)
   | (with_reducible exact LeO.refl _)
   | (with_reducible exact LeO.none _)
   | (with_reducible refine LeO.ite ?_ ?_)
   | (with_reducible refine LeO.bind ?_ (fun _ => ?_))
   | exact ih0 _ _ _ _
   | exact ih1 _ _ _ _ _ _
   | exact ih2 _ _ _ _ _ _
   | exact LeO.none _
   | refine LeO.ite ?_ ?_
   | refine LeO.bind ?_ (fun _ => ?_)
set_option maxHeartbeats 8000000 in
set_option maxRecDepth 100000 in
theorem date_bare.calls (k : Nat) (a0 : ByteArray) (r : ByteArray) (w : World) (h : date_bare.f k a0 = some r) :
  Calls Tryd.prog 19 #[.string a0] w fun e w' => e = .returned (.string r) ∧ Below w.heap.size w w' := by
 have HB := Aside0.mk (Below.refl w.heap.size w)
 have H : (date_bare.l0 k a0 ([] : List Int) 0 0) = some r := h
 clear h
 have H' := Aside0.mk H
 clear H
 go_enter Tryd.func19, Tryd.ntmps19
 go_wp2
 go_loopg [3, 4, 5] k (fun kq v3 v4 v5 w' => ∃ (x3_1 : List Int) (x4_1 : Int) (x5_1 : Int), v4 = .int .i64 x4_1 ∧ v5 = .int .i64 x5_1 ∧ Aside0 (date_bare.l0 kq a0 x3_1 x4_1 x5_1 = some r) ∧ Aside0 (kq ≤ k) ∧ Aside0 (Kd.R (Kd.int .u8) 5 w' w.heap.size (fun _ => True) v3 x3_1) ∧ Aside0 (Below w.heap.size w w'))
 case atStart => exact ⟨(([] : List Int)), (0), (0), qr_, qr_, H', ⟨Nat.le_refl _⟩, ⟨qn_⟩, ⟨qb_ HB.out⟩⟩
 case round =>
  clear H'
  obtain ⟨x3_1, x4_1, x5_1, rfl, rfl, HA, HK1, HO_3, HB⟩ := hrel
  cases gk with
  | zero => exact absurd HA.out (by simp [date_bare.l0])
  | succ k1 =>
   have H := HA.out
   clear HA
   simp only [date_bare.l0] at H
   by_cases c2 : x5_1 < (a0.size : Int)
   ·rw [if_pos c2] at H
    have c2b0 : decide (x5_1 < (a0.size : Int)) = true := decide_eq_true c2
    clear c2
    by_cases c3 : 0 ≤ x5_1
    ·rw [if_pos c3] at H
     have c3b0 : decide (0 ≤ x5_1) = true := decide_eq_true c3
     clear c3
     have HC5 := Aside0.mk H
     clear H
     have p4 : 0 ≤ (x5_1 : Int) := qd_
     have q4 : x5_1 < (a0.size : Int) := qd_
     have hx4 := bt_at a0 x5_1
     replace p4 := eq_true p4
     replace q4 := eq_true q4
     go_upto_region 7 with (fail)
     go_cut [16] (fun v16 wc => ∃ (kq : Nat) (x16_4 : Bool), v16 = .bool x16_4 ∧ Aside0 (date_bare.j1 kq a0 x3_1 x4_1 x5_1 (bt a0 x5_1) x16_4 = some r) ∧ Aside0 (kq ≤ k1) ∧ Aside0 (Kd.R (Kd.int .u8) 5 wc w.heap.size (fun _ => True) u3 x3_1) ∧ Aside0 (Below w.heap.size w wc))
     case first =>
      have H := HC5.out
      clear HC5
      by_cases c6 : x4_1 > 0
      ·rw [if_pos c6] at H
       have c6b0 : decide (0 < x4_1) = true := decide_eq_true c6
       clear c6
       (first | rw [c6b0] | (simp only [i64_w, i32_w]; rw [c6b0]) | skip)
       have H' := Aside0.mk H
       clear H
       go_wp2
       go_meet
       case rel => exact ⟨_, (((bt a0 x5_1) == 92)), qr_, H', ⟨by have := HK1.out; first | omega | exact Nat.le_refl _⟩, ⟨ql_ HO_3.out⟩, ⟨qb_ HB.out⟩⟩
      ·rw [if_neg c6] at H
       have c6b0 : decide (0 < x4_1) = false := decide_eq_false c6
       clear c6
       (first | rw [c6b0] | (simp only [i64_w, i32_w]; rw [c6b0]) | skip)
       have H' := Aside0.mk H
       clear H
       go_wp2
       go_meet
       case rel => exact ⟨_, (false), qr_, H', ⟨by have := HK1.out; first | omega | exact Nat.le_refl _⟩, ⟨ql_ HO_3.out⟩, ⟨qb_ HB.out⟩⟩
     case rest =>
      clear HC5
      (try clear c2b0)
      obtain ⟨kq, x16_4, rfl, HA, HJ4, HO_3, HB⟩ := hcut
      cases kq with
      | zero => exact absurd HA.out (by simp [date_bare.j1])
      | succ kj4 =>
       have H := HA.out
       clear HA
       simp only [date_bare.j1] at H
       by_cases c7 : x16_4 = true
       ·subst c7
        have H1 : (date_bare.l0 kj4 a0 x3_1 x4_1 (wrap64 ((wrap64 (x5_1 + 1)) + 1))) = some r := by rw [if_pos rfl] at H; exact H
        clear H
        have H := H1
        clear H1
        have H' := Aside0.mk H
        clear H
        go_wp2
        go_roundg kj4
        case measure => have := HK1.out; have := HJ4.out; omega
        case rel => exact ⟨(x3_1), (x4_1), (wrap64 ((wrap64 (x5_1 + 1)) + 1)), qr_, qr_, H', ⟨by have := HK1.out; have := HJ4.out; omega⟩, ⟨ql_ HO_3.out⟩, ⟨qb_ HB.out⟩⟩
       ·replace c7 := Bool.eq_false_iff.mpr c7
        subst c7
        have H1 : (if (bt a0 x5_1) = 40 then (if x3_1.length < 140737488355328 then (date_bare.l0 kj4 a0 (x3_1 ++ [32]) (wrap64 (x4_1 + 1)) (wrap64 (x5_1 + 1))) else (none)) else (if x4_1 > 0 then (date_bare.j2 kj4 a0 x3_1 x4_1 x5_1 (bt a0 x5_1) ((bt a0 x5_1) == 41)) else (date_bare.j2 kj4 a0 x3_1 x4_1 x5_1 (bt a0 x5_1) false))) = some r := by rw [if_neg (show ¬ (false = true) by decide)] at H; exact H
        clear H
        have H := H1
        clear H1
        by_cases c8 : (bt a0 x5_1) = 40
        ·rw [if_pos c8] at H
         have c8b0 : ((bt a0 x5_1) == 40) = true := beq_iff_eq.mpr c8
         have c8b1 : ((bt a0 x5_1) != 40) = false := bne_eq_false_iff_eq.mpr c8
         clear c8
         by_cases c9 : x3_1.length < 140737488355328
         ·rw [if_pos c9] at H
          have LMc9 := Aside0.mk c9
          clear c9
          obtain ⟨y105, hy105⟩ : ∃ y_ : List Int, y_ = (x3_1 ++ [32]) := ⟨_, rfl⟩
          replace H : (date_bare.l0 kj4 a0 y105 (wrap64 (x4_1 + 1)) (wrap64 (x5_1 + 1))) = some r := by first | (rw [hy105]; with_reducible exact H) | (have H2_ := (Option.bind_some _ _).symm.trans H; rw [hy105]; with_reducible exact H2_) | (have H2_ := (Option.bind_some _ _).symm.trans H; with_reducible exact H2_) | with_reducible exact H | (rw [hy105]; exact H) | exact H
          have Ny105 := Aside0.mk hy105
          clear hy105
          have H' := Aside0.mk H
          clear H
          go_wp2_with (first | ((with_reducible refine gate_builtin (b := .append) (xs := #[.tmp 30, .tmp 31]) rfl ?_); at_builtin; refine Kd.R_append (Kd.int .u8) (w0 := w) w.heap.size rfl (.tmp 30) (.tmp 31) 41 5 (.int .u8 0) 1 rfl Tryd.underlying41 info5 rfl (by decide) (by omega) u3 x3_1 32 [.int .u8 32] (fun _ => True) (fun _ => False) rfl rfl ?aP (fun _ hk => hk.elim) ?aF ?aO ?aB ?aS ?aL ?_; (case aP => exact rfl); (case aB => exact (qb_ HB.out)); (case aF => exact (fun _ _ => trivial)); (case aO => exact (ql_ HO_3.out)); (case aS => exact (below_size (qb_ HB.out))); (case aL => have := LMc9.out; omega); intro v106 w10 ho hb hg hat; rw [← Ny105.out] at ho; have n0_ := Aside0.mk (hb); have n1_ := Aside0.mk (ho); clear HB; clear HO_3; have HB := n0_; have HO107 := n1_; clear n0_ n1_; clear ho hb hg hat))
          go_roundg kj4
          case measure => have := HK1.out; have := HJ4.out; omega
          case rel => exact ⟨(y105), (wrap64 (x4_1 + 1)), (wrap64 (x5_1 + 1)), qr_, qr_, H', ⟨by have := HK1.out; have := HJ4.out; omega⟩, ⟨ql_ HO107.out⟩, ⟨qb_ HB.out⟩⟩
         ·rw [if_neg c9] at H
          exact absurd H (by simp)
        ·rw [if_neg c8] at H
         have c8b0 : ((bt a0 x5_1) == 40) = false := beq_eq_false_iff_ne.mpr c8
         have c8b1 : ((bt a0 x5_1) != 40) = true := bne_iff_ne.mpr c8
         have HC11 := Aside0.mk H
         clear H
         go_upto_region 12 with (fail)
         go_cut [33] (fun v33 wc => ∃ (kq : Nat) (x33_10 : Bool), v33 = .bool x33_10 ∧ Aside0 (date_bare.j2 kq a0 x3_1 x4_1 x5_1 (bt a0 x5_1) x33_10 = some r) ∧ Aside0 (kq ≤ kj4) ∧ Aside0 (Kd.R (Kd.int .u8) 5 wc w.heap.size (fun _ => True) u3 x3_1) ∧ Aside0 (Below w.heap.size w wc))
         case first =>
          have H := HC11.out
          clear HC11
          by_cases c12 : x4_1 > 0
          ·rw [if_pos c12] at H
           have c12b0 : decide (0 < x4_1) = true := decide_eq_true c12
           clear c12
           (first | rw [c12b0] | (simp only [i64_w, i32_w]; rw [c12b0]) | skip)
           have H' := Aside0.mk H
           clear H
           go_wp2
           go_meet
           case rel => exact ⟨_, (((bt a0 x5_1) == 41)), qr_, H', ⟨by have := HK1.out; have := HJ4.out; first | omega | exact Nat.le_refl _⟩, ⟨ql_ HO_3.out⟩, ⟨qb_ HB.out⟩⟩
          ·rw [if_neg c12] at H
           have c12b0 : decide (0 < x4_1) = false := decide_eq_false c12
           clear c12
           (first | rw [c12b0] | (simp only [i64_w, i32_w]; rw [c12b0]) | skip)
           have H' := Aside0.mk H
           clear H
           go_wp2
           go_meet
           case rel => exact ⟨_, (false), qr_, H', ⟨by have := HK1.out; have := HJ4.out; first | omega | exact Nat.le_refl _⟩, ⟨ql_ HO_3.out⟩, ⟨qb_ HB.out⟩⟩
         case rest =>
          clear HC11
          (try clear c7)
          obtain ⟨kq, x33_10, rfl, HA, HJ10, HO_3, HB⟩ := hcut
          cases kq with
          | zero => exact absurd HA.out (by simp [date_bare.j2])
          | succ kj10 =>
           have H := HA.out
           clear HA
           simp only [date_bare.j2] at H
           by_cases c13 : x33_10 = true
           ·subst c13
            have H1 : (date_bare.l0 kj10 a0 x3_1 (wrap64 (x4_1 - 1)) (wrap64 (x5_1 + 1))) = some r := by rw [if_pos rfl] at H; exact H
            clear H
            have H := H1
            clear H1
            have H' := Aside0.mk H
            clear H
            go_wp2
            go_roundg kj10
            case measure => have := HK1.out; have := HJ4.out; have := HJ10.out; omega
            case rel => exact ⟨(x3_1), (wrap64 (x4_1 - 1)), (wrap64 (x5_1 + 1)), qr_, qr_, H', ⟨by have := HK1.out; have := HJ4.out; have := HJ10.out; omega⟩, ⟨ql_ HO_3.out⟩, ⟨qb_ HB.out⟩⟩
           ·replace c13 := Bool.eq_false_iff.mpr c13
            subst c13
            have H1 : (if x4_1 = 0 then (if x3_1.length < 140737488355328 then (date_bare.l0 kj10 a0 (x3_1 ++ [(bt a0 x5_1)]) x4_1 (wrap64 (x5_1 + 1))) else (none)) else (date_bare.l0 kj10 a0 x3_1 x4_1 (wrap64 (x5_1 + 1)))) = some r := by rw [if_neg (show ¬ (false = true) by decide)] at H; exact H
            clear H
            have H := H1
            clear H1
            by_cases c14 : x4_1 = 0
            ·rw [if_pos c14] at H
             have c14b0 : (x4_1 == 0) = true := beq_iff_eq.mpr c14
             have c14b1 : (x4_1 != 0) = false := bne_eq_false_iff_eq.mpr c14
             clear c14
             by_cases c15 : x3_1.length < 140737488355328
             ·rw [if_pos c15] at H
              have LMc15 := Aside0.mk c15
              clear c15
              obtain ⟨y108, hy108⟩ : ∃ y_ : List Int, y_ = (x3_1 ++ [(bt a0 x5_1)]) := ⟨_, rfl⟩
              replace H : (date_bare.l0 kj10 a0 y108 x4_1 (wrap64 (x5_1 + 1))) = some r := by first | (rw [hy108]; with_reducible exact H) | (have H2_ := (Option.bind_some _ _).symm.trans H; rw [hy108]; with_reducible exact H2_) | (have H2_ := (Option.bind_some _ _).symm.trans H; with_reducible exact H2_) | with_reducible exact H | (rw [hy108]; exact H) | exact H
              have Ny108 := Aside0.mk hy108
              clear hy108
              have H' := Aside0.mk H
              clear H
              go_wp2_with (first | ((with_reducible refine gate_builtin (b := .append) (xs := #[.tmp 45, .tmp 47]) rfl ?_); at_builtin; refine Kd.R_append (Kd.int .u8) (w0 := w) w.heap.size rfl (.tmp 45) (.tmp 47) 41 5 (.int .u8 0) 1 rfl Tryd.underlying41 info5 rfl (by decide) (by omega) u3 x3_1 (bt a0 x5_1) [.int .u8 (bt a0 x5_1)] (fun _ => True) (fun _ => False) rfl rfl ?aP (fun _ hk => hk.elim) ?aF ?aO ?aB ?aS ?aL ?_; (case aP => exact rfl); (case aB => exact (qb_ HB.out)); (case aF => exact (fun _ _ => trivial)); (case aO => exact (ql_ HO_3.out)); (case aS => exact (below_size (qb_ HB.out))); (case aL => have := LMc15.out; omega); intro v109 w16 ho hb hg hat; rw [← Ny108.out] at ho; have n0_ := Aside0.mk (hb); have n1_ := Aside0.mk (ho); clear HB; clear HO_3; have HB := n0_; have HO110 := n1_; clear n0_ n1_; clear ho hb hg hat))
              go_roundg kj10
              case measure => have := HK1.out; have := HJ4.out; have := HJ10.out; omega
              case rel => exact ⟨(y108), (x4_1), (wrap64 (x5_1 + 1)), qr_, qr_, H', ⟨by have := HK1.out; have := HJ4.out; have := HJ10.out; omega⟩, ⟨ql_ HO110.out⟩, ⟨qb_ HB.out⟩⟩
             ·rw [if_neg c15] at H
              exact absurd H (by simp)
            ·rw [if_neg c14] at H
             have c14b0 : (x4_1 == 0) = false := beq_eq_false_iff_ne.mpr c14
             have c14b1 : (x4_1 != 0) = true := bne_iff_ne.mpr c14
             have H' := Aside0.mk H
             clear H
             go_wp2
             go_roundg kj10
             case measure => have := HK1.out; have := HJ4.out; have := HJ10.out; omega
             case rel => exact ⟨(x3_1), (x4_1), (wrap64 (x5_1 + 1)), qr_, qr_, H', ⟨by have := HK1.out; have := HJ4.out; have := HJ10.out; omega⟩, ⟨ql_ HO_3.out⟩, ⟨qb_ HB.out⟩⟩
    ·rw [if_neg c3] at H
     exact absurd H (by simp)
   ·rw [if_neg c2] at H
    have c2b0 : decide (x5_1 < (a0.size : Int)) = false := decide_eq_false c2
    clear c2
    obtain rfl := Option.some.inj H
    have hcv17 := fun n_ : Nat => own_string (P := Tryd.prog) Tryd.underlying41 Tryd.underlying5 Tryd.underlying9 (Kd.own_of_R (Kd.R_drewN HO_3.out n_))
    have hcv18 := fun m_ n_ : Nat => own_string (P := Tryd.prog) Tryd.underlying41 Tryd.underlying5 Tryd.underlying9 (Kd.own_of_R (Kd.R_drewN (Kd.R_drewN HO_3.out m_) n_))
    have hcv19 := own_string (P := Tryd.prog) Tryd.underlying41 Tryd.underlying5 Tryd.underlying9 (Kd.own_of_R HO_3.out)
    (try have hcv19d := fun n_ : Nat => own_string (P := Tryd.prog) Tryd.underlying41 Tryd.underlying5 Tryd.underlying9 (Kd.own_of_R (Kd.R_drewN HO_3.out n_)))
    go_wp2
    go_ret
    exact ⟨qw_, qb_ HB.out⟩

/-! ### chars_Lower: function 48 -/
def chars_Lower.f (a0 : Int) : Option (Int) := if a0 ≥ 65 then (if a0 ≤ 90 then (some ((((a0 - 65) % 256) + 97) % 256)) else (some a0)) else (some a0)
set_option maxHeartbeats 8000000 in
set_option maxRecDepth 100000 in
theorem chars_Lower.calls (a0 : Int) (r : Int) (w : World) (h : chars_Lower.f a0 = some r) :
  Calls Tryd.prog 48 #[.int .u8 a0] w fun e w' => e = .returned (.int .u8 r) ∧ Drawn0 w w' := by
 have H : (if a0 ≥ 65 then (if a0 ≤ 90 then (some ((((a0 - 65) % 256) + 97) % 256)) else (some a0)) else (some a0)) = some r := h
 clear h
 by_cases c2 : a0 ≥ 65
 ·rw [if_pos c2] at H
  have c2b0 : decide (65 ≤ a0) = true := decide_eq_true c2
  clear c2
  by_cases c3 : a0 ≤ 90
  ·rw [if_pos c3] at H
   have c3b0 : decide (a0 ≤ 90) = true := decide_eq_true c3
   clear c3
   obtain rfl := Option.some.inj H
   go_enter Tryd.func48, Tryd.ntmps48
   go_wp2
   go_ret
   exact ⟨by first | rfl | (simp; done) | (simp [*]; done), by repeat (first | exact Drawn0.refl _ | apply Drawn0.step)⟩
  ·rw [if_neg c3] at H
   have c3b0 : decide (a0 ≤ 90) = false := decide_eq_false c3
   clear c3
   obtain rfl := Option.some.inj H
   go_enter Tryd.func48, Tryd.ntmps48
   go_wp2
   go_ret
   exact ⟨by first | rfl | (simp; done) | (simp [*]; done), by repeat (first | exact Drawn0.refl _ | apply Drawn0.step)⟩
 ·rw [if_neg c2] at H
  have c2b0 : decide (65 ≤ a0) = false := decide_eq_false c2
  clear c2
  obtain rfl := Option.some.inj H
  go_enter Tryd.func48, Tryd.ntmps48
  go_wp2
  go_ret
  exact ⟨by first | rfl | (simp; done) | (simp [*]; done), by repeat (first | exact Drawn0.refl _ | apply Drawn0.step)⟩

/-! ### chars_Fold: function 49 -/
def chars_Fold.low (x : Int) : Int := (chars_Lower.f x).getD 0
def chars_Fold.f (a0 : ByteArray) : Option ByteArray := if a0.size ≤ 9223372036854775807 then some (strOfNums ((bytesOf a0).map chars_Fold.low)) else none
theorem chars_Fold.low_is (x : Int) : chars_Lower.f x = some (chars_Fold.low x) := by
  unfold chars_Fold.low chars_Lower.f
  by_cases h1 : x ≥ 65
  · by_cases h2 : x ≤ 90
    · simp only [if_pos h1, if_pos h2]; rfl
    · simp only [if_pos h1, if_neg h2]; rfl
  · simp only [if_neg h1]; rfl
theorem chars_Fold.low_get (s : ByteArray) (i : Nat) : ((bytesOf s).map chars_Fold.low).getD i 0 = chars_Fold.low ((bytesOf s).getD i 0) := by
  simp only [List.getD_eq_getElem?_getD, List.getElem?_map]
  cases (bytesOf s)[i]? <;> rfl
def chars_Fold.row (w wr : World) (s : ByteArray) (i : Nat) : Prop :=
  ∃ (C : Array Value) (m : Nat), wr.heap[w.heap.size]? = some (.cells C 5 (m, m + 1)) ∧ C.size = m ∧ s.size ≤ m ∧ ∀ j, j < s.size → C[j]? = some (.int .u8 (if j < i then chars_Fold.low ((bytesOf s).getD j 0) else (bytesOf s).getD j 0))
theorem chars_Fold.start (w : World) (s : ByteArray) (hs : s.size ≤ 9223372036854775807) : chars_Fold.row w (Lib.bytesWorld w 5 s) s 0 := by
  refine ⟨_, _, Lib.bytesWorld_at_new w 5 s, rfl, by simp [Lib.bytesCells], fun j hj => ?_⟩
  have h1 := Lib.bytesWorld_cell w 5 s j hj
  rw [cell_of_row _ _ _ _ _ _ (Lib.bytesWorld_at_new w 5 s)] at h1
  have h' : j < s.data.toList.length := by rw [data_length]; exact hj
  rw [h1, if_neg (Nat.not_lt_zero _)]
  simp [bytesOf, List.getD_eq_getElem?_getD, List.getElem?_eq_getElem h']
theorem chars_Fold.next {w wr : World} {s : ByteArray} {i : Nat} (h : chars_Fold.row w wr s i) (hi : i < s.size) : chars_Fold.row w (wr.setCell ⟨w.heap.size, i, none⟩ (.int .u8 (chars_Fold.low ((bytesOf s).getD i 0)))) s (i + 1) := by
  obtain ⟨C, m, hg, hm, hsm, hc⟩ := h
  refine ⟨C.setIfInBounds i (.int .u8 (chars_Fold.low ((bytesOf s).getD i 0))), m, ?_, by simpa using hm, hsm, fun j hj => ?_⟩
  · rw [setCell_eq_setRow wr _ i C _ _ _ hg]; exact setRow_heap wr _ C _ _ _ hg
  · rw [Array.getElem?_setIfInBounds]
    by_cases e : i = j
    · subst e; simp [show i < C.size by omega]
    · have : (j < i + 1) ↔ j < i := by omega
      simp only [e, if_false, this]; exact hc j hj
theorem chars_Fold.cell {w wr : World} {s : ByteArray} {i : Nat} (h : chars_Fold.row w wr s i) (j : Nat) (hj : j < s.size) : wr.cell? ⟨w.heap.size, j, none⟩ = some (.int .u8 (if j < i then chars_Fold.low ((bytesOf s).getD j 0) else (bytesOf s).getD j 0)) ∧ wr.frozen? ⟨w.heap.size, j, none⟩ = false := by
  obtain ⟨C, m, hg, hm, hsm, hc⟩ := h
  refine ⟨by rw [cell_of_row _ _ _ _ _ _ hg]; exact hc j hj, ?_⟩
  simp [World.frozen?, hg]; omega
theorem chars_Fold.reads {w wr : World} {s : ByteArray} (h : chars_Fold.row w wr s s.size) (hs : s.size ≤ 9223372036854775807) : Kd.C (Kd.int .u8) wr (some ⟨w.heap.size, 0, none⟩) s.size ((bytesOf s).map chars_Fold.low) := by
  refine Kd.C_of_reads (d := (0 : Int)) (h1 := fun _ => rfl) ⟨by simp [bytesOf_length], hs, fun _ => ⟨_, rfl, fun j hj => ?_⟩⟩
  rw [add_plain, (chars_Fold.cell h j hj).1, if_pos hj, chars_Fold.low_get]
set_option maxHeartbeats 2000000 in
theorem chars_Fold.calls (a0 : ByteArray) (r : ByteArray) (w : World) (h : chars_Fold.f a0 = some r) :
    Calls Tryd.prog 49 #[.string a0] w fun e w' => e = .returned (.string r) ∧ Below w.heap.size w w' := by
  unfold chars_Fold.f at h
  by_cases hs : a0.size ≤ 9223372036854775807
  case neg => rw [if_neg hs] at h; exact absurd h (by simp)
  rw [if_pos hs] at h
  have hr := Option.some.inj h
  clear h
  subst hr
  have hcv := print_bytes (P := Tryd.prog) 9 41 5 Tryd.underlying9 Tryd.underlying41 Tryd.underlying5 a0 w
  have hR := Aside0.mk (chars_Fold.start w a0 hs)
  have hB := Aside0.mk (bytes_below (Below.refl w.heap.size w) (Nat.le_refl _) 5 a0)
  go_enter Tryd.func49, Tryd.ntmps49
  go_wp2
  go_loopw [4, 9] (fun v4 v9 wr => ∃ i : Nat, i ≤ a0.size ∧ v9 = .int .i64 i ∧ Aside0 (chars_Fold.row w wr a0 i) ∧ Aside0 (Below w.heap.size w wr)) (fun v4 v9 _ => a0.size - (intOf v9).toNat)
  case atStart => exact ⟨0, Nat.zero_le _, rfl, hR, hB⟩
  case round =>
    obtain ⟨i, hi, rfl, hR, hB⟩ := hrel
    by_cases hlt : i < a0.size
    · obtain ⟨hc, hf⟩ := chars_Fold.cell hR.out i hlt
      rw [if_neg (Nat.lt_irrefl _)] at hc
      go_wp2_with (go_at_call 48; refine (chars_Lower.calls _ _ _ (chars_Fold.low_is _)).mono ?_; rintro e w' ⟨rfl, ⟨n, rfl⟩⟩)
      go_roundw
      case measure => simp [intOf]; omega
      case rel =>
        refine ⟨i + 1, hlt, by go_num, ⟨?_⟩, ⟨?_⟩⟩
        · exact chars_Fold.next (wr := wr.drewN n) hR.out hlt
        · exact (pw_below_drewN hB.out n).setCell (Nat.le_refl _) _
    · have e : i = a0.size := by omega
      subst e
      have hcv2 : (convert 41 9 (.slice (some ⟨w.heap.size, 0, none⟩) a0.size (grownCap w a0.size 0 5))).run Tryd.prog wr = .ok (.string (strOfNums ((bytesOf a0).map chars_Fold.low))) wr := Kd.C_string (P := Tryd.prog) Tryd.underlying41 Tryd.underlying5 Tryd.underlying9 (chars_Fold.reads hR.out hs)
      go_wp2
      go_ret
      exact ⟨rfl, hB.out⟩

/-! ### chars_Same: function 47 -/
def chars_Same.f (a0 : ByteArray) (a1 : ByteArray) : Option (Bool) := (chars_Fold.f a0).bind fun t111 => ((chars_Fold.f a1).bind fun t112 => (some (t111.toList == t112.toList)))
set_option maxHeartbeats 8000000 in
set_option maxRecDepth 100000 in
theorem chars_Same.calls (a0 : ByteArray) (a1 : ByteArray) (r : Bool) (w : World) (h : chars_Same.f a0 a1 = some r) :
  Calls Tryd.prog 47 #[.string a0, .string a1] w fun e w' => e = .returned (.bool r) ∧ Below w.heap.size w w' := by
 have HB := Aside0.mk (Below.refl w.heap.size w)
 have H : ((chars_Fold.f a0).bind fun t111 => ((chars_Fold.f a1).bind fun t112 => (some (t111.toList == t112.toList)))) = some r := h
 clear h
 replace H := Option.bind_eq_some_iff.mp H
 obtain ⟨t111, A30, H⟩ := H
 replace H : ((chars_Fold.f a1).bind fun t112 => (some (t111.toList == t112.toList))) = some r := H
 have A3 := Aside0.mk A30
 clear A30
 replace H := Option.bind_eq_some_iff.mp H
 obtain ⟨t112, A40, H⟩ := H
 replace H : (some (t111.toList == t112.toList)) = some r := H
 have A4 := Aside0.mk A40
 clear A40
 obtain rfl := Option.some.inj H
 go_enter Tryd.func47, Tryd.ntmps47
 go_wp2_with (first | ((with_reducible refine gate_callee (f := 49) rfl ?_); refine goesL_ (some 6) rfl rfl Tryd.func49 (by kernel_rfl) rfl #[.string a0] rfl qa_ ?_; (with_reducible refine (chars_Fold.calls a0 t111 _ A3.out).mono ?_); rintro e w5 ⟨rfl, hb⟩; refine ⟨_, rfl, ?_⟩; have n0_ := Aside0.mk (below_step (qb_ HB.out) hb); clear HB; have HB := n0_; clear n0_; (try clear hb); (try clear hb2); (try clear hk); (try clear hi)) | ((with_reducible refine gate_callee (f := 49) rfl ?_); refine goesL_ (some 8) rfl rfl Tryd.func49 (by kernel_rfl) rfl #[.string a1] rfl qa_ ?_; (with_reducible refine (chars_Fold.calls a1 t112 _ A4.out).mono ?_); rintro e w6 ⟨rfl, hb⟩; refine ⟨_, rfl, ?_⟩; have n0_ := Aside0.mk (below_step (qb_ HB.out) hb); clear HB; have HB := n0_; clear n0_; (try clear hb); (try clear hb2); (try clear hk); (try clear hi)))
 go_ret
 exact ⟨qw_, qb_ HB.out⟩

/-! ### date_month: function 20 -/
/-- the month that is the same: from a place on, so many left -/
def mo_find (s : ByteArray) : Nat → Int → Option Int
  | 0, _ => some (-1)
  | d + 1, x => (chars_Same.f (mo_word x) s).bind fun t => if t = true then some x else mo_find s d (x + 1)
def date_month.f (a0 : ByteArray) : Option Int := mo_find a0 12 0
set_option maxHeartbeats 4000000 in
theorem date_month.calls (a0 : ByteArray) (r : Int) (w : World) (h : date_month.f a0 = some r) (hL0 : mo_Words w := by first | exact hL0 | exact mo_Words.below hL0 (by repeat (first | (with_reducible first | exact HB.out | apply below_alloc | apply pw_below_drewN | apply below_drew1 | refine below_set ?_ (Aside0.out (by assumption))) | exact HB.out))) :
    Calls Tryd.prog 20 #[.string a0] w fun e w' => e = .returned (.int .i64 r) ∧ Below w.heap.size w w' := by
  have HX : Aside0 (mo_find a0 12 0 = some r) := ⟨h⟩
  clear h
  have l0 : w.cell? ⟨0, 0, none⟩ = some (.string (mo_word 0)) := hL0.1 0 (by decide)
  have l1 : w.cell? ⟨0, 1, none⟩ = some (.string (mo_word 1)) := hL0.1 1 (by decide)
  have l2 : w.cell? ⟨0, 2, none⟩ = some (.string (mo_word 2)) := hL0.1 2 (by decide)
  have l3 : w.cell? ⟨0, 3, none⟩ = some (.string (mo_word 3)) := hL0.1 3 (by decide)
  have l4 : w.cell? ⟨0, 4, none⟩ = some (.string (mo_word 4)) := hL0.1 4 (by decide)
  have l5 : w.cell? ⟨0, 5, none⟩ = some (.string (mo_word 5)) := hL0.1 5 (by decide)
  have l6 : w.cell? ⟨0, 6, none⟩ = some (.string (mo_word 6)) := hL0.1 6 (by decide)
  have l7 : w.cell? ⟨0, 7, none⟩ = some (.string (mo_word 7)) := hL0.1 7 (by decide)
  have l8 : w.cell? ⟨0, 8, none⟩ = some (.string (mo_word 8)) := hL0.1 8 (by decide)
  have l9 : w.cell? ⟨0, 9, none⟩ = some (.string (mo_word 9)) := hL0.1 9 (by decide)
  have l10 : w.cell? ⟨0, 10, none⟩ = some (.string (mo_word 10)) := hL0.1 10 (by decide)
  have l11 : w.cell? ⟨0, 11, none⟩ = some (.string (mo_word 11)) := hL0.1 11 (by decide)
  clear hL0
  go_enter Tryd.func20, Tryd.ntmps20
  go_wp2_with fail
  go_loopw [6] (fun v6 w' => ∃ x : Int, v6 = .int .i64 x ∧ Aside0 (0 ≤ x ∧ x ≤ 12) ∧ Aside0 (mo_find a0 (12 - x.toNat) x = some r) ∧ Aside0 (Below w.heap.size w w')) (fun v6 _ => 12 - (intOf v6).toNat)
  case atStart => exact ⟨0, rfl, ⟨by decide⟩, HX, ⟨Below.refl _ _⟩⟩
  case round =>
    clear HX
    obtain ⟨x, rfl, hx, HX, HB⟩ := hrel
    by_cases h12 : x < 12
    · have b0 : decide (x < 12) = true := decide_eq_true h12
      have xk := mo_ix hx.out.1 h12
      obtain ⟨d, hd⟩ : ∃ d, 12 - x.toNat = d + 1 := ⟨11 - x.toNat, by have := hx.out; omega⟩
      have H := HX.out
      rw [hd, mo_find] at H
      obtain ⟨t, A2, A1⟩ := Option.bind_eq_some_iff.mp H
      have A4 := Aside0.mk A2
      have hd2 : 12 - (x + 1).toNat = d := by have := hx.out; omega
      have hw1 : wrap64 (x + 1) = x + 1 := (by have := hx.out; unfold wrap64; omega)
      clear A2 H
      cases t with
      | true =>
        rw [if_pos rfl] at A1
        obtain rfl := Option.some.inj A1
        clear HX hd hd2
        go_wp2_with (go_at_call 47; refine (chars_Same.calls _ _ true _ A4.out).mono ?_; rintro e w5 ⟨rfl, hB5⟩; have HB5 := Aside0.mk (HB.out.trans (hB5.mono HB.out.size)); clear hB5)
        exact bodyPost_ret (v := .int .i64 x) (by first | rfl | simp [results, Tryd.results20, go_sem]) rfl ⟨rfl, HB5.out⟩
      | false =>
        rw [if_neg (by decide)] at A1
        have A5 : Aside0 (mo_find a0 (12 - (x + 1).toNat) (x + 1) = some r) := ⟨by rw [hd2]; exact A1⟩
        clear A1 HX hd hd2
        go_wp2_with (go_at_call 47; refine (chars_Same.calls _ _ false _ A4.out).mono ?_; rintro e w5 ⟨rfl, hB5⟩; have HB5 := Aside0.mk (HB.out.trans (hB5.mono HB.out.size)); clear hB5)
        go_roundw
        case rel => exact ⟨x + 1, by first | rfl | (simp [hw1]; done), ⟨by have := hx.out; omega⟩, A5, HB5⟩
        case measure => (have := hx.out; simp [intOf]; omega)
    · have b0 : decide (x < 12) = false := decide_eq_false h12
      obtain rfl : x = 12 := by have := hx.out; omega
      have H : some (-1 : Int) = some r := HX.out
      obtain rfl := Option.some.inj H
      clear HX H
      go_wp2_with fail
      exact bodyPost_ret (v := .int .i64 (-1)) (by first | rfl | simp [results, Tryd.results20, go_sem]) rfl ⟨rfl, HB.out⟩

end Go.Proofs.YtmbiggcapakjjaaDoor.P
