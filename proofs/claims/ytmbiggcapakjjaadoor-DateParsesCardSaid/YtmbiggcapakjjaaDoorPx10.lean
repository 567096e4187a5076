-- Written by a program of this session (wip/tools/mk.sh) for this claim: it runs the kit's print with contracts of our own. Lean checks it.
import Derived.Test.YtmbiggcapakjjaaDoorPx0
import Derived.Test.YtmbiggcapakjjaaDoorWRepsOne
import Derived.Test.YtmbiggcapakjjaaDoorZSplit
import Derived.Test.YtmbiggcapakjjaaDoorPx5
import Derived.Test.YtmbiggcapakjjaaDoorPx6
import Derived.Test.YtmbiggcapakjjaaDoorPx7
import Derived.Test.YtmbiggcapakjjaaDoorPx9
namespace Go.Proofs.YtmbiggcapakjjaaDoor.P
open Go.RowKit Go.Proofs.YtmbiggcapakjjaaDoorW.PrintWords Go.Proofs.YtmbiggcapakjjaaDoorW.PrintLast Go.Proofs.YtmbiggcapakjjaaDoorW.PrintMore
attribute [-simp] Int.tmod_tmod_of_dvd
attribute [local go_sem] max2_int min2_int max_two min_two max_three min_three max_four min_four   -- for this text's walks alone
set_option linter.unusedVariables false
set_option linter.unusedSimpArgs false

/-! ### date_Day: function 16 -/
def date_Day.f (a0_0 : Int) (a0_1 : Int) : Option (Int) := (date_floor.f (wrap64 (a0_0 + (wrap64 (a0_1 * 60)))) 86400).bind fun t244 => (some t244)
set_option maxHeartbeats 8000000 in
set_option maxRecDepth 100000 in
theorem date_Day.calls (a0_0 : Int) (a0_1 : Int) (r : Int) (w : World) (h : date_Day.f a0_0 a0_1 = some r) :
  Calls Tryd.prog 16 #[.agg #[.int .i64 a0_0, .int .i64 a0_1]] w fun e w' => e = .returned (.int .i64 r) ∧ Below w.heap.size w w' := by
 have hu24 := Tryd.underlying24
 have HB := Aside0.mk (Below.refl w.heap.size w)
 have H : ((date_floor.f (wrap64 (a0_0 + (wrap64 (a0_1 * 60)))) 86400).bind fun t244 => (some t244)) = some r := h
 clear h
 replace H := Option.bind_eq_some_iff.mp H
 obtain ⟨t244, A20, H⟩ := H
 replace H : (some t244) = some r := H
 have A2 := Aside0.mk A20
 clear A20
 obtain rfl := Option.some.inj H
 go_enter Tryd.func16, Tryd.ntmps16
 go_wp2_with (first | ((with_reducible refine gate_dst (N := 1) rfl ?_); refine box_event ?hg (N := 1) ?hd (cs := #[.int .i64 a0_0, .int .i64 a0_1]) (t := 24) ?hr ?_; (case hd => rfl); (case hg => rfl); (case hr => first | (go_simp; done) | (go_simp; rfl)); intro gb243 hg w3 hbox hb; have n0_ := Aside0.mk (below_step (qb_ HB.out) hb); have n1_ := Aside0.mk (hbox); have n2_ := Aside0.mk ((by rw [hg]; exact (below_size (qb_ HB.out)) : w.heap.size ≤ gb243)); have n3_ := Aside0.mk ((by rw [hg]; exact (below_size (qb_ HB.out)) : w.heap.size ≤ gb243)); clear HB; have HB := n0_; have BK243 := n1_; have GW243 := n2_; have GE243 := n3_; clear n0_ n1_ n2_ n3_; clear hb hbox hg; have hcz4_0 : w3.cell? ⟨gb243, 0, none⟩ = some (.int .i64 a0_0) := (blk_cell BK243.out 0).trans rfl; have hcz4_1 : w3.cell? ⟨gb243, 1, none⟩ = some (.int .i64 a0_1) := (blk_cell BK243.out 1).trans rfl; have hfz4_0 := blk_frozen BK243.out 0; have hfz4_1 := blk_frozen BK243.out 1) | ((with_reducible refine gate_callee (f := 38) rfl ?_); refine goesL_ (some 9) rfl rfl Tryd.func38 (by kernel_rfl) rfl #[.int .i64 (wrap64 (a0_0 + (wrap64 (a0_1 * 60)))), .int .i64 86400] rfl qa_ ?_; (with_reducible refine (date_floor.calls (wrap64 (a0_0 + (wrap64 (a0_1 * 60)))) 86400 t244 _ A2.out).mono ?_); rintro e w' ⟨rfl, ⟨nd, rfl⟩⟩; refine ⟨_, rfl, ?_⟩))
 go_ret
 exact ⟨qw_, qb_ HB.out⟩

/-! ### letterboxlaw11_awake: function 7 -/
def letterboxlaw11_awake.f : Option Bool := some true
def aw_1 : ByteArray := ⟨#[84, 104, 117, 44, 32, 49, 32, 74, 97, 110, 32, 49, 57, 55, 48, 32, 48, 49, 58, 48, 48, 58, 48, 48, 32, 43, 48, 49, 48, 48]⟩
def aw_2 : ByteArray := ⟨#[34, 32, 49, 45, 74, 97, 110, 45, 49, 57, 55, 48, 32, 48, 49, 58, 48, 48, 58, 48, 48, 32, 43, 48, 49, 48, 48, 34]⟩
def aw_3 : ByteArray := ⟨#[50, 45, 106, 97, 110, 45, 49, 57, 55, 48]⟩
theorem aw_one : date_Parse.f 400 aw_1 = some (0, 60, true) := by kernel_rfl
theorem aw_two : date_ParseInternal.f 400 aw_2 = some (0, 60, true) := by kernel_rfl
theorem aw_three : date_ParseDay.f 400 aw_3 = some (1, true) := by kernel_rfl
theorem aw_said : date_Internal.f 400 0 60 = some aw_2 := by kernel_rfl
theorem aw_eq : (aw_2.toList == [34, 32, 49, 45, 74, 97, 110, 45, 49, 57, 55, 48, 32, 48, 49, 58, 48, 48, 58, 48, 48, 32, 43, 48, 49, 48, 48, 34]) = true := by kernel_rfl
theorem aw_day : date_Day.f 0 60 = some 0 := by kernel_rfl
set_option maxHeartbeats 4000000 in
theorem letterboxlaw11_awake.calls (r : Bool) (w : World) (h : letterboxlaw11_awake.f = some r) (hL0 : mo_Words w := by first | exact hL0 | exact mo_Words.below hL0 (by repeat (first | (with_reducible first | exact HB.out | apply below_alloc | apply pw_below_drewN | apply below_drew1 | refine below_set ?_ (Aside0.out (by assumption))) | exact HB.out))) :
    Calls Tryd.prog 7 #[] w fun e w' => e = .returned (.bool r) ∧ Below w.heap.size w w' := by
  obtain rfl : r = true := (Option.some.inj h).symm
  clear h
  have HL := Aside0.mk hL0
  clear hL0
  have hae := aw_eq
  go_enter Tryd.func7, Tryd.ntmps7
  go_wp2_with fail
  refine (date_Parse.calls 400 aw_1 0 60 true _ aw_one HL.out).mono ?_
  rintro e w1 ⟨rfl, b1⟩
  have HB1 := Aside0.mk b1
  clear b1
  go_wp2_with fail
  refine (date_ParseInternal.calls 400 aw_2 0 60 true _ aw_two (HL.out.below (below_alloc HB1.out _))).mono ?_
  rintro e w2 ⟨rfl, b2⟩
  have D2 := Aside0.mk (blk_below (blk_new w1 (.cells #[.int .i64 0, .int .i64 60] 24)) b2)
  have HB2 := Aside0.mk ((below_alloc HB1.out (.cells #[.int .i64 0, .int .i64 60] 24)).trans (b2.mono (below_alloc HB1.out _).size))
  clear b2
  go_wp2_with fail
  refine (date_ParseDay.calls 400 aw_3 1 true _ aw_three (HL.out.below (below_alloc HB2.out _))).mono ?_
  rintro e w3 ⟨rfl, b3⟩
  have D3 := blk_below (blk_below D2.out (below_alloc (Below.refl w2.heap.size w2) (.cells #[.int .i64 0, .int .i64 60] 24))) b3
  have E3 := blk_below (blk_new w2 (.cells #[.int .i64 0, .int .i64 60] 24)) b3
  have HB3 := Aside0.mk ((below_alloc HB2.out (.cells #[.int .i64 0, .int .i64 60] 24)).trans (b3.mono (below_alloc HB2.out _).size))
  have z0 := blk_cell D3 0
  have z1 := blk_cell D3 1
  have y0 := blk_cell E3 0
  have y1 := blk_cell E3 1
  simp only [List.getElem?_toArray, List.getElem?_cons_zero, List.getElem?_cons_succ] at z0 z1 y0 y1
  have HD3 := Aside0.mk D3
  have HE3 := Aside0.mk E3
  clear D3 E3 b3
  go_wp2_with fail
  refine (date_Internal.calls 400 0 60 aw_2 _ aw_said (HL.out.below HB3.out)).mono ?_
  rintro e w4 ⟨rfl, b4⟩
  have D4 := blk_below HD3.out b4
  have x0 := blk_cell D4 0
  have x1 := blk_cell D4 1
  simp only [List.getElem?_toArray, List.getElem?_cons_zero, List.getElem?_cons_succ] at x0 x1
  have HB4 := Aside0.mk (HB3.out.trans (b4.mono HB3.out.size))
  clear b4 D4 z0 z1 y0 y1
  go_wp2_with fail
  refine (date_Day.calls 0 60 0 _ aw_day).mono ?_
  rintro e w5 ⟨rfl, b5⟩
  have HB5 := Aside0.mk (HB4.out.trans (b5.mono HB4.out.size))
  clear b5
  go_wp2
  go_ret
  exact ⟨rfl, HB5.out⟩

/-! ### letterboxref11_parts: function 27 -/
mutual
def letterboxref11_parts.l0 : Nat → ByteArray → List ByteArray → ByteArray → Int → Option (List ByteArray)
 | 0, _, _, _, _ => none
 | k + 1, x0, x3, x4, x5 => if x5 ≤ (x0.size : Int) then (if x5 < (x0.size : Int) then (if 0 ≤ x5 then (if (bt x0 x5) = 32 then (letterboxref11_parts.j1 k x0 x3 x4 x5 false) else (letterboxref11_parts.j1 k x0 x3 x4 x5 ((bt x0 x5) != 9))) else (none)) else (letterboxref11_parts.j1 k x0 x3 x4 x5 false)) else (some x3)
def letterboxref11_parts.j1 : Nat → ByteArray → List ByteArray → ByteArray → Int → Bool → Option (List ByteArray)
 | 0, _, _, _, _, _ => none
 | k + 1, x0, x3, x4, x5, x27 => if x27 = true then (if 0 ≤ x5 then (if x5 ≤ (wrap64 (x5 + 1)) then (if (wrap64 (x5 + 1)) ≤ (x0.size : Int) then (if x4.size + (x0.extract (x5 : Int).toNat ((wrap64 (x5 + 1)) : Int).toNat).size ≤ 9223372036854775807 then (letterboxref11_parts.l0 k x0 x3 (x4 ++ (x0.extract (x5 : Int).toNat ((wrap64 (x5 + 1)) : Int).toNat)) (wrap64 (x5 + 1))) else (none)) else (none)) else (none)) else (none)) else (if x4.toList = ([] : List UInt8) then (letterboxref11_parts.l0 k x0 x3 x4 (wrap64 (x5 + 1))) else (if x3.length < 8796093022208 then (letterboxref11_parts.l0 k x0 (x3 ++ [x4]) (⟨#[]⟩ : ByteArray) (wrap64 (x5 + 1))) else (none)))
end
def letterboxref11_parts.f (k : Nat) (a0 : ByteArray) : Option (List ByteArray) := letterboxref11_parts.l0 k a0 ([] : List ByteArray) (⟨#[]⟩ : ByteArray) 0
theorem letterboxref11_parts.mono_l : ∀ k, (∀ y0 y1 y2 y3, LeO (letterboxref11_parts.l0 k y0 y1 y2 y3) (letterboxref11_parts.l0 (k + 1) y0 y1 y2 y3)) ∧ (∀ y0 y1 y2 y3 y4, LeO (letterboxref11_parts.j1 k y0 y1 y2 y3 y4) (letterboxref11_parts.j1 (k + 1) y0 y1 y2 y3 y4))
 | 0 => ⟨fun _ _ _ _ r h => by simp [letterboxref11_parts.l0] at h, fun _ _ _ _ _ r h => by simp [letterboxref11_parts.j1] at h⟩
 | k + 1 => by
  obtain ⟨ih0, ih1⟩ := letterboxref11_parts.mono_l k
  refine ⟨?_, ?_⟩
  ·intro y0 y1 y2 y3
   unfold letterboxref11_parts.l0
   repeat' first
   | (with_reducible exact ih0 _ _ _ _)
   | (with_reducible exact ih1 _ _ _ _ _)
   | (with_reducible exact LeO.refl _)
   | (with_reducible exact LeO.none _)
   | (with_reducible refine LeO.ite ?_ ?_)
   | (with_reducible refine LeO.bind ?_ (fun _ => ?_))
   | exact ih0 _ _ _ _
   | exact ih1 _ _ _ _ _
   | exact LeO.none _
   | refine LeO.ite ?_ ?_
   | refine LeO.bind ?_ (fun _ => ?_)
  ·intro y0 y1 y2 y3 y4
   unfold letterboxref11_parts.j1
   repeat' first
   | (with_reducible exact ih0 _ _ _ _)
   | (with_reducible exact ih1 _ _ _ _ _)
   | (with_reducible exact LeO.refl _)
   | (with_reducible exact LeO.none _)
   | (with_reducible refine LeO.ite ?_ ?_)
   | (with_reducible refine LeO.bind ?_ (fun _ => ?_))
   | exact ih0 _ _ _ _
   | exact ih1 _ _ _ _ _
   | exact LeO.none _
   | refine LeO.ite ?_ ?_
   | refine LeO.bind ?_ (fun _ => ?_)
theorem letterboxref11_parts.mono : ∀ a0 k, LeO (letterboxref11_parts.f k a0) (letterboxref11_parts.f (k + 1) a0) := by
 intro a0 k
 obtain ⟨ih0, ih1⟩ := letterboxref11_parts.mono_l k
 unfold letterboxref11_parts.f
 repeat' first
   | (with_reducible exact ih0 _ _ _ _)
   | (with_reducible exact ih1 _ _ _ _ _)
   | (with_reducible exact LeO.refl _)
   | (with_reducible exact LeO.none _)
   | (with_reducible refine LeO.ite ?_ ?_)
   | (with_reducible refine LeO.bind ?_ (fun _ => ?_))
   | exact ih0 _ _ _ _
   | exact ih1 _ _ _ _ _
   | exact LeO.none _
   | refine LeO.ite ?_ ?_
   | refine LeO.bind ?_ (fun _ => ?_)
set_option maxHeartbeats 8000000 in
set_option maxRecDepth 100000 in
theorem letterboxref11_parts.calls (k : Nat) (a0 : ByteArray) (r : List ByteArray) (w : World) (h : letterboxref11_parts.f k a0 = some r) :
  Calls Tryd.prog 27 #[.string a0] w fun e w' => ∃ v0_ : Value, e = .returned (v0_) ∧ Kd.R Kd.string 9 w' w.heap.size (fun _ => True) v0_ r ∧ Below w.heap.size w w' := by
 have HB := Aside0.mk (Below.refl w.heap.size w)
 have H : (letterboxref11_parts.l0 k a0 ([] : List ByteArray) (⟨#[]⟩ : ByteArray) 0) = some r := h
 clear h
 have H' := Aside0.mk H
 clear H
 go_enter Tryd.func27, Tryd.ntmps27
 go_wp2
 go_loopg [3, 4, 5] k (fun kq v3 v4 v5 w' => ∃ (x3_1 : List ByteArray) (x4_1 : ByteArray) (x5_1 : Int), v4 = .string x4_1 ∧ v5 = .int .i64 x5_1 ∧ Aside0 (letterboxref11_parts.l0 kq a0 x3_1 x4_1 x5_1 = some r) ∧ Aside0 (kq ≤ k) ∧ Aside0 (Kd.R Kd.string 9 w' w.heap.size (fun _ => True) v3 x3_1) ∧ Aside0 (Below w.heap.size w w'))
 case atStart => exact ⟨(([] : List ByteArray)), ((⟨#[]⟩ : ByteArray)), (0), qr_, qr_, H', ⟨Nat.le_refl _⟩, ⟨qn_⟩, ⟨qb_ HB.out⟩⟩
 case round =>
  clear H'
  obtain ⟨x3_1, x4_1, x5_1, rfl, rfl, HA, HK1, HO_3, HB⟩ := hrel
  cases gk with
  | zero => exact absurd HA.out (by simp [letterboxref11_parts.l0])
  | succ k1 =>
   have H := HA.out
   clear HA
   simp only [letterboxref11_parts.l0] at H
   by_cases c2 : x5_1 ≤ (a0.size : Int)
   ·rw [if_pos c2] at H
    have c2b0 : decide (x5_1 ≤ (a0.size : Int)) = true := decide_eq_true c2
    clear c2
    have HC3 := Aside0.mk H
    clear H
    go_upto_region 6 with (fail)
    go_cut [27] (fun v27 wc => ∃ (kq : Nat) (x27_2 : Bool), v27 = .bool x27_2 ∧ Aside0 (letterboxref11_parts.j1 kq a0 x3_1 x4_1 x5_1 x27_2 = some r) ∧ Aside0 (kq ≤ k1) ∧ Aside0 (Kd.R Kd.string 9 wc w.heap.size (fun _ => True) u3 x3_1) ∧ Aside0 (Below w.heap.size w wc))
    case first =>
     have H := HC3.out
     clear HC3
     by_cases c4 : x5_1 < (a0.size : Int)
     ·rw [if_pos c4] at H
      have c4b0 : decide (x5_1 < (a0.size : Int)) = true := decide_eq_true c4
      clear c4
      (first | rw [c4b0] | (simp only [i64_w, i32_w]; rw [c4b0]) | skip)
      by_cases c5 : 0 ≤ x5_1
      ·rw [if_pos c5] at H
       have c5b0 : decide (0 ≤ x5_1) = true := decide_eq_true c5
       clear c5
       by_cases c7 : (bt a0 x5_1) = 32
       ·rw [if_pos c7] at H
        have c7b0 : ((bt a0 x5_1) == 32) = true := beq_iff_eq.mpr c7
        have c7b1 : ((bt a0 x5_1) != 32) = false := bne_eq_false_iff_eq.mpr c7
        clear c7
        have H' := Aside0.mk H
        clear H
        have p6 : 0 ≤ (x5_1 : Int) := qd_
        have q6 : x5_1 < (a0.size : Int) := qd_
        have hx6 := bt_at a0 x5_1
        replace p6 := eq_true p6
        replace q6 := eq_true q6
        go_wp2
        go_meet
        case rel => exact ⟨_, (false), qr_, H', ⟨by have := HK1.out; first | omega | exact Nat.le_refl _⟩, ⟨ql_ HO_3.out⟩, ⟨qb_ HB.out⟩⟩
       ·rw [if_neg c7] at H
        have c7b0 : ((bt a0 x5_1) == 32) = false := beq_eq_false_iff_ne.mpr c7
        have c7b1 : ((bt a0 x5_1) != 32) = true := bne_iff_ne.mpr c7
        have H' := Aside0.mk H
        clear H
        have p6 : 0 ≤ (x5_1 : Int) := qd_
        have q6 : x5_1 < (a0.size : Int) := qd_
        have hx6 := bt_at a0 x5_1
        replace p6 := eq_true p6
        replace q6 := eq_true q6
        have p8 : 0 ≤ (x5_1 : Int) := qd_
        have q8 : x5_1 < (a0.size : Int) := qd_
        have hx8 := bt_at a0 x5_1
        replace p8 := eq_true p8
        replace q8 := eq_true q8
        go_wp2
        go_meet
        case rel => exact ⟨_, (((bt a0 x5_1) != 9)), qr_, H', ⟨by have := HK1.out; first | omega | exact Nat.le_refl _⟩, ⟨ql_ HO_3.out⟩, ⟨qb_ HB.out⟩⟩
      ·rw [if_neg c5] at H
       exact absurd H (by simp)
     ·rw [if_neg c4] at H
      have c4b0 : decide (x5_1 < (a0.size : Int)) = false := decide_eq_false c4
      clear c4
      (first | rw [c4b0] | (simp only [i64_w, i32_w]; rw [c4b0]) | skip)
      have H' := Aside0.mk H
      clear H
      go_wp2
      go_meet
      case rel => exact ⟨_, (false), qr_, H', ⟨by have := HK1.out; first | omega | exact Nat.le_refl _⟩, ⟨ql_ HO_3.out⟩, ⟨qb_ HB.out⟩⟩
    case rest =>
     clear HC3
     obtain ⟨kq, x27_2, rfl, HA, HJ2, HO_3, HB⟩ := hcut
     cases kq with
     | zero => exact absurd HA.out (by simp [letterboxref11_parts.j1])
     | succ kj2 =>
      have H := HA.out
      clear HA
      simp only [letterboxref11_parts.j1] at H
      by_cases c9 : x27_2 = true
      ·subst c9
       have H1 : (if 0 ≤ x5_1 then (if x5_1 ≤ (wrap64 (x5_1 + 1)) then (if (wrap64 (x5_1 + 1)) ≤ (a0.size : Int) then (if x4_1.size + (a0.extract (x5_1 : Int).toNat ((wrap64 (x5_1 + 1)) : Int).toNat).size ≤ 9223372036854775807 then (letterboxref11_parts.l0 kj2 a0 x3_1 (x4_1 ++ (a0.extract (x5_1 : Int).toNat ((wrap64 (x5_1 + 1)) : Int).toNat)) (wrap64 (x5_1 + 1))) else (none)) else (none)) else (none)) else (none)) = some r := by rw [if_pos rfl] at H; exact H
       clear H
       have H := H1
       clear H1
       by_cases c10 : 0 ≤ x5_1
       ·rw [if_pos c10] at H
        have c10b0 := eq_true c10
        have c10b1 : decide (0 ≤ x5_1) = true := decide_eq_true c10
        clear c10
        by_cases c11 : x5_1 ≤ (wrap64 (x5_1 + 1))
        ·rw [if_pos c11] at H
         have c11b0 := eq_true c11
         have c11b1 : decide (x5_1 ≤ (wrap64 (x5_1 + 1))) = true := decide_eq_true c11
         by_cases c12 : (wrap64 (x5_1 + 1)) ≤ (a0.size : Int)
         ·rw [if_pos c12] at H
          have c12b0 := eq_true c12
          have c12b1 : decide ((wrap64 (x5_1 + 1)) ≤ (a0.size : Int)) = true := decide_eq_true c12
          by_cases c13 : x4_1.size + (a0.extract (x5_1 : Int).toNat ((wrap64 (x5_1 + 1)) : Int).toNat).size ≤ 9223372036854775807
          ·rw [if_pos c13] at H
           have c13b0 := eq_true c13
           have c13b1 : decide (x4_1.size + (a0.extract (x5_1 : Int).toNat ((wrap64 (x5_1 + 1)) : Int).toNat).size ≤ 9223372036854775807) = true := decide_eq_true c13
           try have c13b2 : (9223372036854775807 < x4_1.size + (a0.extract (x5_1 : Int).toNat ((wrap64 (x5_1 + 1)) : Int).toNat).size) = False := eq_false (Nat.not_lt.2 c13)
           (try (have c13h := c13; simp only [ByteArray.size_append, ByteArray.size_extract, Int.toNat_natCast, Nat.sub_zero, Nat.min_self, ByteArray.extract_zero_size] at c13h; have c13b7 := eq_false (Nat.not_lt.2 c13h); clear c13h))
           try have c13b5 : (9223372036854775807 < x4_1.size + (((wrap64 (x5_1 + 1)) : Int).toNat - (x5_1 : Int).toNat)) = False := eq_false (Nat.not_lt.2 (by have h_ := c13; (try have e0_ : (wrap64 (x5_1 + 1)) ≤ (a0.size : Int) := qd_); simp only [ByteArray.size_append, ByteArray.size_extract] at h_ ⊢; omega))
           have H' := Aside0.mk H
           clear H
           go_wp2
           go_roundg kj2
           case measure => have := HK1.out; have := HJ2.out; omega
           case rel => exact ⟨(x3_1), (x4_1 ++ (a0.extract (x5_1 : Int).toNat ((wrap64 (x5_1 + 1)) : Int).toNat)), (wrap64 (x5_1 + 1)), qr_, qr_, H', ⟨by have := HK1.out; have := HJ2.out; omega⟩, ⟨ql_ HO_3.out⟩, ⟨qb_ HB.out⟩⟩
          ·rw [if_neg c13] at H
           exact absurd H (by simp)
         ·rw [if_neg c12] at H
          exact absurd H (by simp)
        ·rw [if_neg c11] at H
         exact absurd H (by simp)
       ·rw [if_neg c10] at H
        exact absurd H (by simp)
      ·replace c9 := Bool.eq_false_iff.mpr c9
       subst c9
       have H1 : (if x4_1.toList = ([] : List UInt8) then (letterboxref11_parts.l0 kj2 a0 x3_1 x4_1 (wrap64 (x5_1 + 1))) else (if x3_1.length < 8796093022208 then (letterboxref11_parts.l0 kj2 a0 (x3_1 ++ [x4_1]) (⟨#[]⟩ : ByteArray) (wrap64 (x5_1 + 1))) else (none))) = some r := by rw [if_neg (show ¬ (false = true) by decide)] at H; exact H
       clear H
       have H := H1
       clear H1
       by_cases c14 : x4_1.toList = ([] : List UInt8)
       ·rw [if_pos c14] at H
        have c14b0 : (x4_1.toList == ([] : List UInt8)) = true := beq_iff_eq.mpr c14
        have c14b1 : (x4_1.toList != ([] : List UInt8)) = false := bne_eq_false_iff_eq.mpr c14
        clear c14
        have H' := Aside0.mk H
        clear H
        go_wp2
        go_roundg kj2
        case measure => have := HK1.out; have := HJ2.out; omega
        case rel => exact ⟨(x3_1), (x4_1), (wrap64 (x5_1 + 1)), qr_, qr_, H', ⟨by have := HK1.out; have := HJ2.out; omega⟩, ⟨ql_ HO_3.out⟩, ⟨qb_ HB.out⟩⟩
       ·rw [if_neg c14] at H
        have c14b0 : (x4_1.toList == ([] : List UInt8)) = false := beq_eq_false_iff_ne.mpr c14
        have c14b1 : (x4_1.toList != ([] : List UInt8)) = true := bne_iff_ne.mpr c14
        by_cases c15 : x3_1.length < 8796093022208
        ·rw [if_pos c15] at H
         have LMc15 := Aside0.mk c15
         clear c15
         obtain ⟨y245, hy245⟩ : ∃ y_ : List ByteArray, y_ = (x3_1 ++ [x4_1]) := ⟨_, rfl⟩
         replace H : (letterboxref11_parts.l0 kj2 a0 y245 (⟨#[]⟩ : ByteArray) (wrap64 (x5_1 + 1))) = some r := by first | (rw [hy245]; with_reducible exact H) | (have H2_ := (Option.bind_some _ _).symm.trans H; rw [hy245]; with_reducible exact H2_) | (have H2_ := (Option.bind_some _ _).symm.trans H; with_reducible exact H2_) | with_reducible exact H | (rw [hy245]; exact H) | exact H
         have Ny245 := Aside0.mk hy245
         clear hy245
         have H' := Aside0.mk H
         clear H
         go_wp2_with (first | ((with_reducible refine gate_builtin (b := .append) (xs := #[.tmp 37, .tmp 39]) rfl ?_); at_builtin; refine Kd.R_append Kd.string (w0 := w) w.heap.size rfl (.tmp 37) (.tmp 39) 43 9 (.string ⟨#[]⟩) 16 rfl Tryd.underlying43 info9 rfl (by decide) (by omega) u3 x3_1 x4_1 [.string x4_1] (fun _ => True) (fun _ => False) rfl rfl ?aP (fun _ hk => hk.elim) ?aF ?aO ?aB ?aS ?aL ?_; (case aP => exact rfl); (case aB => exact (qb_ HB.out)); (case aF => exact (fun _ _ => trivial)); (case aO => exact (ql_ HO_3.out)); (case aS => exact (below_size (qb_ HB.out))); (case aL => have := LMc15.out; omega); intro v246 w16 ho hb hg hat; rw [← Ny245.out] at ho; have n0_ := Aside0.mk (hb); have n1_ := Aside0.mk (ho); clear HB; clear HO_3; have HB := n0_; have HO247 := n1_; clear n0_ n1_; clear ho hb hg hat))
         go_roundg kj2
         case measure => have := HK1.out; have := HJ2.out; omega
         case rel => exact ⟨(y245), ((⟨#[]⟩ : ByteArray)), (wrap64 (x5_1 + 1)), qr_, qr_, H', ⟨by have := HK1.out; have := HJ2.out; omega⟩, ⟨ql_ HO247.out⟩, ⟨qb_ HB.out⟩⟩
        ·rw [if_neg c15] at H
         exact absurd H (by simp)
   ·rw [if_neg c2] at H
    have c2b0 : decide (x5_1 ≤ (a0.size : Int)) = false := decide_eq_false c2
    clear c2
    obtain rfl := Option.some.inj H
    go_wp2
    go_ret
    exact ⟨_, qw_, ql_ HO_3.out, qb_ HB.out⟩

/-! ### letterboxref11_bare: function 28 -/
def letterboxref11_bare.l0 : Nat → ByteArray → ByteArray → Int → Int → Option (ByteArray)
 | 0, _, _, _, _ => none
 | k + 1, x0, x3, x4, x5 => if x5 < (x0.size : Int) then (if 0 ≤ x5 then (if (bt x0 x5) = 40 then (if x3.size + 1 ≤ 9223372036854775807 then (letterboxref11_bare.l0 k x0 (x3 ++ (⟨#[32]⟩ : ByteArray)) (wrap64 (x4 + 1)) (wrap64 (x5 + 1))) else (none)) else (if x4 = 0 then (if x5 ≤ (wrap64 (x5 + 1)) then (if (wrap64 (x5 + 1)) ≤ (x0.size : Int) then (if x3.size + (x0.extract (x5 : Int).toNat ((wrap64 (x5 + 1)) : Int).toNat).size ≤ 9223372036854775807 then (letterboxref11_bare.l0 k x0 (x3 ++ (x0.extract (x5 : Int).toNat ((wrap64 (x5 + 1)) : Int).toNat)) x4 (wrap64 (x5 + 1))) else (none)) else (none)) else (none)) else (if (bt x0 x5) = 92 then (letterboxref11_bare.l0 k x0 x3 x4 (wrap64 ((wrap64 (x5 + 1)) + 1))) else (if (bt x0 x5) = 41 then (letterboxref11_bare.l0 k x0 x3 (wrap64 (x4 - 1)) (wrap64 (x5 + 1))) else (letterboxref11_bare.l0 k x0 x3 x4 (wrap64 (x5 + 1))))))) else (none)) else (some x3)
def letterboxref11_bare.f (k : Nat) (a0 : ByteArray) : Option (ByteArray) := letterboxref11_bare.l0 k a0 (⟨#[]⟩ : ByteArray) 0 0
theorem letterboxref11_bare.mono_l : ∀ k, (∀ y0 y1 y2 y3, LeO (letterboxref11_bare.l0 k y0 y1 y2 y3) (letterboxref11_bare.l0 (k + 1) y0 y1 y2 y3))
 | 0 => fun _ _ _ _ r h => by simp [letterboxref11_bare.l0] at h
 | k + 1 => by
  have ih0 := letterboxref11_bare.mono_l k
  ·intro y0 y1 y2 y3
   unfold letterboxref11_bare.l0
   repeat' first
   | (with_reducible exact ih0 _ _ _ _)
   | (with_reducible exact LeO.refl _)
   | (with_reducible exact LeO.none _)
   | (with_reducible refine LeO.ite ?_ ?_)
   | (with_reducible refine LeO.bind ?_ (fun _ => ?_))
   | exact ih0 _ _ _ _
   | exact LeO.none _
   | refine LeO.ite ?_ ?_
   | refine LeO.bind ?_ (fun _ => ?_)
theorem letterboxref11_bare.mono : ∀ a0 k, LeO (letterboxref11_bare.f k a0) (letterboxref11_bare.f (k + 1) a0) := by
 intro a0 k
 have ih0 := letterboxref11_bare.mono_l k
 unfold letterboxref11_bare.f
 repeat' first
   | (with_reducible exact ih0 _ _ _ _)
   | (with_reducible exact LeO.refl _)
   | (with_reducible exact LeO.none _)
   | (with_reducible refine LeO.ite ?_ ?_)
   | (with_reducible refine LeO.bind ?_ (fun _ => ?_))
   | exact ih0 _ _ _ _
   | exact LeO.none _
   | refine LeO.ite ?_ ?_
   | refine LeO.bind ?_ (fun _ => ?_)
set_option maxHeartbeats 8000000 in
set_option maxRecDepth 100000 in
theorem letterboxref11_bare.calls (k : Nat) (a0 : ByteArray) (r : ByteArray) (w : World) (h : letterboxref11_bare.f k a0 = some r) :
  Calls Tryd.prog 28 #[.string a0] w fun e w' => e = .returned (.string r) ∧ Drawn0 w w' := by
 have H : (letterboxref11_bare.l0 k a0 (⟨#[]⟩ : ByteArray) 0 0) = some r := h
 clear h
 have H' := Aside0.mk H
 clear H
 go_enter Tryd.func28, Tryd.ntmps28
 go_wp2
 go_loopg [3, 4, 5] k (fun kq v3 v4 v5 w' => ∃ (x3_1 : ByteArray) (x4_1 : Int) (x5_1 : Int), v3 = .string x3_1 ∧ v4 = .int .i64 x4_1 ∧ v5 = .int .i64 x5_1 ∧ Aside0 (letterboxref11_bare.l0 kq a0 x3_1 x4_1 x5_1 = some r) ∧ Aside0 (kq ≤ k) ∧ Drawn0 w w')
 case atStart => exact ⟨((⟨#[]⟩ : ByteArray)), (0), (0), qr_, qr_, qr_, H', ⟨Nat.le_refl _⟩, by repeat (first | exact Drawn0.refl _ | apply Drawn0.step)⟩
 case round =>
  clear H'
  obtain ⟨x3_1, x4_1, x5_1, rfl, rfl, rfl, HA, HK1, ⟨m1, rfl⟩⟩ := hrel
  cases gk with
  | zero => exact absurd HA.out (by simp [letterboxref11_bare.l0])
  | succ k1 =>
   have H := HA.out
   clear HA
   simp only [letterboxref11_bare.l0] at H
   by_cases c2 : x5_1 < (a0.size : Int)
   ·rw [if_pos c2] at H
    have c2b0 : decide (x5_1 < (a0.size : Int)) = true := decide_eq_true c2
    clear c2
    by_cases c3 : 0 ≤ x5_1
    ·rw [if_pos c3] at H
     have c3b0 : decide (0 ≤ x5_1) = true := decide_eq_true c3
     clear c3
     by_cases c5 : (bt a0 x5_1) = 40
     ·rw [if_pos c5] at H
      have c5b0 : ((bt a0 x5_1) == 40) = true := beq_iff_eq.mpr c5
      have c5b1 : ((bt a0 x5_1) != 40) = false := bne_eq_false_iff_eq.mpr c5
      clear c5
      by_cases c6 : x3_1.size + 1 ≤ 9223372036854775807
      ·rw [if_pos c6] at H
       have c6b0 := eq_true c6
       have c6b1 : decide (x3_1.size + 1 ≤ 9223372036854775807) = true := decide_eq_true c6
       try have c6b2 : (9223372036854775807 < x3_1.size + 1) = False := eq_false (Nat.not_lt.2 c6)
       have H' := Aside0.mk H
       clear H
       have p4 : 0 ≤ (x5_1 : Int) := qd_
       have q4 : x5_1 < (a0.size : Int) := qd_
       have hx4 := bt_at a0 x5_1
       replace p4 := eq_true p4
       replace q4 := eq_true q4
       go_wp2
       go_roundg k1
       case measure => have := HK1.out; omega
       case rel => exact ⟨(x3_1 ++ (⟨#[32]⟩ : ByteArray)), (wrap64 (x4_1 + 1)), (wrap64 (x5_1 + 1)), qr_, qr_, qr_, H', ⟨by have := HK1.out; omega⟩, by repeat (first | exact Drawn0.refl _ | apply Drawn0.step)⟩
      ·rw [if_neg c6] at H
       exact absurd H (by simp)
     ·rw [if_neg c5] at H
      have c5b0 : ((bt a0 x5_1) == 40) = false := beq_eq_false_iff_ne.mpr c5
      have c5b1 : ((bt a0 x5_1) != 40) = true := bne_iff_ne.mpr c5
      by_cases c7 : x4_1 = 0
      ·rw [if_pos c7] at H
       have c7b0 : (x4_1 == 0) = true := beq_iff_eq.mpr c7
       have c7b1 : (x4_1 != 0) = false := bne_eq_false_iff_eq.mpr c7
       clear c7
       have c8b0 := eq_true (qd_ : 0 ≤ x5_1)
       by_cases c9 : x5_1 ≤ (wrap64 (x5_1 + 1))
       ·rw [if_pos c9] at H
        have c9b0 := eq_true c9
        have c9b1 : decide (x5_1 ≤ (wrap64 (x5_1 + 1))) = true := decide_eq_true c9
        by_cases c10 : (wrap64 (x5_1 + 1)) ≤ (a0.size : Int)
        ·rw [if_pos c10] at H
         have c10b0 := eq_true c10
         have c10b1 : decide ((wrap64 (x5_1 + 1)) ≤ (a0.size : Int)) = true := decide_eq_true c10
         by_cases c11 : x3_1.size + (a0.extract (x5_1 : Int).toNat ((wrap64 (x5_1 + 1)) : Int).toNat).size ≤ 9223372036854775807
         ·rw [if_pos c11] at H
          have c11b0 := eq_true c11
          have c11b1 : decide (x3_1.size + (a0.extract (x5_1 : Int).toNat ((wrap64 (x5_1 + 1)) : Int).toNat).size ≤ 9223372036854775807) = true := decide_eq_true c11
          try have c11b2 : (9223372036854775807 < x3_1.size + (a0.extract (x5_1 : Int).toNat ((wrap64 (x5_1 + 1)) : Int).toNat).size) = False := eq_false (Nat.not_lt.2 c11)
          (try (have c11h := c11; simp only [ByteArray.size_append, ByteArray.size_extract, Int.toNat_natCast, Nat.sub_zero, Nat.min_self, ByteArray.extract_zero_size] at c11h; have c11b7 := eq_false (Nat.not_lt.2 c11h); clear c11h))
          try have c11b5 : (9223372036854775807 < x3_1.size + (((wrap64 (x5_1 + 1)) : Int).toNat - (x5_1 : Int).toNat)) = False := eq_false (Nat.not_lt.2 (by have h_ := c11; (try have e0_ : (wrap64 (x5_1 + 1)) ≤ (a0.size : Int) := qd_); simp only [ByteArray.size_append, ByteArray.size_extract] at h_ ⊢; omega))
          have H' := Aside0.mk H
          clear H
          have p4 : 0 ≤ (x5_1 : Int) := qd_
          have q4 : x5_1 < (a0.size : Int) := qd_
          have hx4 := bt_at a0 x5_1
          replace p4 := eq_true p4
          replace q4 := eq_true q4
          go_wp2
          go_roundg k1
          case measure => have := HK1.out; omega
          case rel => exact ⟨(x3_1 ++ (a0.extract (x5_1 : Int).toNat ((wrap64 (x5_1 + 1)) : Int).toNat)), (x4_1), (wrap64 (x5_1 + 1)), qr_, qr_, qr_, H', ⟨by have := HK1.out; omega⟩, by repeat (first | exact Drawn0.refl _ | apply Drawn0.step)⟩
         ·rw [if_neg c11] at H
          exact absurd H (by simp)
        ·rw [if_neg c10] at H
         exact absurd H (by simp)
       ·rw [if_neg c9] at H
        exact absurd H (by simp)
      ·rw [if_neg c7] at H
       have c7b0 : (x4_1 == 0) = false := beq_eq_false_iff_ne.mpr c7
       have c7b1 : (x4_1 != 0) = true := bne_iff_ne.mpr c7
       by_cases c12 : (bt a0 x5_1) = 92
       ·rw [if_pos c12] at H
        have c12b0 : ((bt a0 x5_1) == 92) = true := beq_iff_eq.mpr c12
        have c12b1 : ((bt a0 x5_1) != 92) = false := bne_eq_false_iff_eq.mpr c12
        clear c12
        have H' := Aside0.mk H
        clear H
        have p4 : 0 ≤ (x5_1 : Int) := qd_
        have q4 : x5_1 < (a0.size : Int) := qd_
        have hx4 := bt_at a0 x5_1
        replace p4 := eq_true p4
        replace q4 := eq_true q4
        go_wp2
        go_roundg k1
        case measure => have := HK1.out; omega
        case rel => exact ⟨(x3_1), (x4_1), (wrap64 ((wrap64 (x5_1 + 1)) + 1)), qr_, qr_, qr_, H', ⟨by have := HK1.out; omega⟩, by repeat (first | exact Drawn0.refl _ | apply Drawn0.step)⟩
       ·rw [if_neg c12] at H
        have c12b0 : ((bt a0 x5_1) == 92) = false := beq_eq_false_iff_ne.mpr c12
        have c12b1 : ((bt a0 x5_1) != 92) = true := bne_iff_ne.mpr c12
        by_cases c13 : (bt a0 x5_1) = 41
        ·rw [if_pos c13] at H
         have c13b0 : ((bt a0 x5_1) == 41) = true := beq_iff_eq.mpr c13
         have c13b1 : ((bt a0 x5_1) != 41) = false := bne_eq_false_iff_eq.mpr c13
         clear c13
         have H' := Aside0.mk H
         clear H
         have p4 : 0 ≤ (x5_1 : Int) := qd_
         have q4 : x5_1 < (a0.size : Int) := qd_
         have hx4 := bt_at a0 x5_1
         replace p4 := eq_true p4
         replace q4 := eq_true q4
         go_wp2
         go_roundg k1
         case measure => have := HK1.out; omega
         case rel => exact ⟨(x3_1), (wrap64 (x4_1 - 1)), (wrap64 (x5_1 + 1)), qr_, qr_, qr_, H', ⟨by have := HK1.out; omega⟩, by repeat (first | exact Drawn0.refl _ | apply Drawn0.step)⟩
        ·rw [if_neg c13] at H
         have c13b0 : ((bt a0 x5_1) == 41) = false := beq_eq_false_iff_ne.mpr c13
         have c13b1 : ((bt a0 x5_1) != 41) = true := bne_iff_ne.mpr c13
         have H' := Aside0.mk H
         clear H
         have p4 : 0 ≤ (x5_1 : Int) := qd_
         have q4 : x5_1 < (a0.size : Int) := qd_
         have hx4 := bt_at a0 x5_1
         replace p4 := eq_true p4
         replace q4 := eq_true q4
         go_wp2
         go_roundg k1
         case measure => have := HK1.out; omega
         case rel => exact ⟨(x3_1), (x4_1), (wrap64 (x5_1 + 1)), qr_, qr_, qr_, H', ⟨by have := HK1.out; omega⟩, by repeat (first | exact Drawn0.refl _ | apply Drawn0.step)⟩
    ·rw [if_neg c3] at H
     exact absurd H (by simp)
   ·rw [if_neg c2] at H
    have c2b0 : decide (x5_1 < (a0.size : Int)) = false := decide_eq_false c2
    clear c2
    obtain rfl := Option.some.inj H
    go_wp2
    go_ret
    exact ⟨by first | rfl | (simp; done) | (simp [*]; done), by repeat (first | exact Drawn0.refl _ | apply Drawn0.step)⟩

/-! ### letterboxref11_digits: function 29 -/
mutual
def letterboxref11_digits.j0 : Nat → ByteArray → Bool → Option (Int)
 | 0, _, _ => none
 | k + 1, x0, x18 => if x18 = true then (some (-1)) else (letterboxref11_digits.l0 k x0 0 0)
def letterboxref11_digits.l0 : Nat → ByteArray → Int → Int → Option (Int)
 | 0, _, _, _ => none
 | k + 1, x0, x7, x8 => if x8 < (x0.size : Int) then (if 0 ≤ x8 then (if (bt x0 x8) < 48 then (some (-1)) else (if (bt x0 x8) > 57 then (some (-1)) else (letterboxref11_digits.l0 k x0 (wrap64 ((wrap64 ((wrap64 (10 * x7)) + (wrap64 (bt x0 x8)))) - 48)) (wrap64 (x8 + 1))))) else (none)) else (some x7)
end
def letterboxref11_digits.f (k : Nat) (a0 : ByteArray) (a1 : Int) (a2 : Int) : Option (Int) := if (a0.size : Int) < a1 then (letterboxref11_digits.j0 k a0 true) else (letterboxref11_digits.j0 k a0 (decide ((a0.size : Int) > a2)))
theorem letterboxref11_digits.mono_l : ∀ k, (∀ y0 y1, LeO (letterboxref11_digits.j0 k y0 y1) (letterboxref11_digits.j0 (k + 1) y0 y1)) ∧ (∀ y0 y1 y2, LeO (letterboxref11_digits.l0 k y0 y1 y2) (letterboxref11_digits.l0 (k + 1) y0 y1 y2))
 | 0 => ⟨fun _ _ r h => by simp [letterboxref11_digits.j0] at h, fun _ _ _ r h => by simp [letterboxref11_digits.l0] at h⟩
 | k + 1 => by
  obtain ⟨ih0, ih1⟩ := letterboxref11_digits.mono_l k
  refine ⟨?_, ?_⟩
  ·intro y0 y1
   unfold letterboxref11_digits.j0
   repeat' first
   | (with_reducible exact ih0 _ _)
   | (with_reducible exact ih1 _ _ _)
   | (with_reducible exact LeO.refl _)
   | (with_reducible exact LeO.none _)
   | (with_reducible refine LeO.ite ?_ ?_)
   | (with_reducible refine LeO.bind ?_ (fun _ => ?_))
   | exact ih0 _ _
   | exact ih1 _ _ _
   | exact LeO.none _
   | refine LeO.ite ?_ ?_
   | refine LeO.bind ?_ (fun _ => ?_)
  ·intro y0 y1 y2
   unfold letterboxref11_digits.l0
   repeat' first
   | (with_reducible exact ih0 _ _)
   | (with_reducible exact ih1 _ _ _)
   | (with_reducible exact LeO.refl _)
   | (with_reducible exact LeO.none _)
   | (with_reducible refine LeO.ite ?_ ?_)
   | (with_reducible refine LeO.bind ?_ (fun _ => ?_))
   | exact ih0 _ _
   | exact ih1 _ _ _
   | exact LeO.none _
   | refine LeO.ite ?_ ?_
   | refine LeO.bind ?_ (fun _ => ?_)
theorem letterboxref11_digits.mono : ∀ a0 a1 a2 k, LeO (letterboxref11_digits.f k a0 a1 a2) (letterboxref11_digits.f (k + 1) a0 a1 a2) := by
 intro a0 a1 a2 k
 obtain ⟨ih0, ih1⟩ := letterboxref11_digits.mono_l k
 unfold letterboxref11_digits.f
 repeat' first
   | (with_reducible exact ih0 _ _)
   | (with_reducible exact ih1 _ _ _)
   | (with_reducible exact LeO.refl _)
   | (with_reducible exact LeO.none _)
   | (with_reducible refine LeO.ite ?_ ?_)
   | (with_reducible refine LeO.bind ?_ (fun _ => ?_))
   | exact ih0 _ _
   | exact ih1 _ _ _
   | exact LeO.none _
   | refine LeO.ite ?_ ?_
   | refine LeO.bind ?_ (fun _ => ?_)
set_option maxHeartbeats 8000000 in
set_option maxRecDepth 100000 in
theorem letterboxref11_digits.calls (k : Nat) (a0 : ByteArray) (a1 : Int) (a2 : Int) (r : Int) (w : World) (h : letterboxref11_digits.f k a0 a1 a2 = some r) :
  Calls Tryd.prog 29 #[.string a0, .int .i64 a1, .int .i64 a2] w fun e w' => e = .returned (.int .i64 r) ∧ Drawn0 w w' := by
 have H : (if (a0.size : Int) < a1 then (letterboxref11_digits.j0 k a0 true) else (letterboxref11_digits.j0 k a0 (decide ((a0.size : Int) > a2)))) = some r := h
 clear h
 have HC4 := Aside0.mk H
 clear H
 go_enter Tryd.func29, Tryd.ntmps29
 go_upto_region 1 with (fail)
 go_cut [18] (fun v18 wc => ∃ (kq : Nat) (x18_3 : Bool), v18 = .bool x18_3 ∧ Aside0 (letterboxref11_digits.j0 kq a0 x18_3 = some r) ∧ Aside0 (kq ≤ k) ∧ Drawn0 w wc)
 case first =>
  have H := HC4.out
  clear HC4
  by_cases c5 : (a0.size : Int) < a1
  ·rw [if_pos c5] at H
   have c5b0 : decide ((a0.size : Int) < a1) = true := decide_eq_true c5
   clear c5
   (first | rw [c5b0] | (simp only [i64_w, i32_w]; rw [c5b0]) | skip)
   have H' := Aside0.mk H
   clear H
   go_wp2
   go_meet
   case rel => exact ⟨_, (true), qr_, H', ⟨by first | omega | exact Nat.le_refl _⟩, by repeat (first | exact Drawn0.refl _ | apply Drawn0.step)⟩
  ·rw [if_neg c5] at H
   have c5b0 : decide ((a0.size : Int) < a1) = false := decide_eq_false c5
   clear c5
   (first | rw [c5b0] | (simp only [i64_w, i32_w]; rw [c5b0]) | skip)
   have H' := Aside0.mk H
   clear H
   go_wp2
   go_meet
   case rel => exact ⟨_, (decide ((a0.size : Int) > a2)), qr_, H', ⟨by first | omega | exact Nat.le_refl _⟩, by repeat (first | exact Drawn0.refl _ | apply Drawn0.step)⟩
 case rest =>
  clear HC4
  obtain ⟨kq, x18_3, rfl, HA, HJ3, ⟨mc3, rfl⟩⟩ := hcut
  cases kq with
  | zero => exact absurd HA.out (by simp [letterboxref11_digits.j0])
  | succ kj3 =>
   have H := HA.out
   clear HA
   simp only [letterboxref11_digits.j0] at H
   by_cases c6 : x18_3 = true
   ·subst c6
    have H1 : (some (-1)) = some r := by rw [if_pos rfl] at H; exact H
    clear H
    have H := H1
    clear H1
    obtain rfl := Option.some.inj H
    go_wp2
    go_ret
    exact ⟨by first | rfl | (simp; done) | (simp [*]; done), by repeat (first | exact Drawn0.refl _ | apply Drawn0.step)⟩
   ·replace c6 := Bool.eq_false_iff.mpr c6
    subst c6
    have H1 : (letterboxref11_digits.l0 kj3 a0 0 0) = some r := by rw [if_neg (show ¬ (false = true) by decide)] at H; exact H
    clear H
    have H := H1
    clear H1
    have H' := Aside0.mk H
    clear H
    go_wp2
    go_loopg [7, 8] kj3 (fun kq v7 v8 w' => ∃ (x7_2 : Int) (x8_2 : Int), v7 = .int .i64 x7_2 ∧ v8 = .int .i64 x8_2 ∧ Aside0 (letterboxref11_digits.l0 kq a0 x7_2 x8_2 = some r) ∧ Aside0 (kq ≤ kj3) ∧ Drawn0 w w')
    case atStart => exact ⟨(0), (0), qr_, qr_, H', ⟨Nat.le_refl _⟩, by repeat (first | exact Drawn0.refl _ | apply Drawn0.step)⟩
    case round =>
     clear H'
     (try clear c6)
     obtain ⟨x7_2, x8_2, rfl, rfl, HA, HK2, ⟨m2, rfl⟩⟩ := hrel
     cases gk with
     | zero => exact absurd HA.out (by simp [letterboxref11_digits.l0])
     | succ k2 =>
      have H := HA.out
      clear HA
      simp only [letterboxref11_digits.l0] at H
      by_cases c7 : x8_2 < (a0.size : Int)
      ·rw [if_pos c7] at H
       have c7b0 : decide (x8_2 < (a0.size : Int)) = true := decide_eq_true c7
       clear c7
       by_cases c8 : 0 ≤ x8_2
       ·rw [if_pos c8] at H
        have c8b0 : decide (0 ≤ x8_2) = true := decide_eq_true c8
        clear c8
        by_cases c10 : (bt a0 x8_2) < 48
        ·rw [if_pos c10] at H
         have c10b0 : decide ((bt a0 x8_2) < 48) = true := decide_eq_true c10
         clear c10
         obtain rfl := Option.some.inj H
         have p9 : 0 ≤ (x8_2 : Int) := qd_
         have q9 : x8_2 < (a0.size : Int) := qd_
         have hx9 := bt_at a0 x8_2
         replace p9 := eq_true p9
         replace q9 := eq_true q9
         go_wp2
         go_ret
         exact ⟨by first | rfl | (simp; done) | (simp [*]; done), by repeat (first | exact Drawn0.refl _ | apply Drawn0.step)⟩
        ·rw [if_neg c10] at H
         have c10b0 : decide ((bt a0 x8_2) < 48) = false := decide_eq_false c10
         clear c10
         by_cases c12 : (bt a0 x8_2) > 57
         ·rw [if_pos c12] at H
          have c12b0 : decide (57 < (bt a0 x8_2)) = true := decide_eq_true c12
          clear c12
          obtain rfl := Option.some.inj H
          have p9 : 0 ≤ (x8_2 : Int) := qd_
          have q9 : x8_2 < (a0.size : Int) := qd_
          have hx9 := bt_at a0 x8_2
          replace p9 := eq_true p9
          replace q9 := eq_true q9
          have p11 : 0 ≤ (x8_2 : Int) := qd_
          have q11 : x8_2 < (a0.size : Int) := qd_
          have hx11 := bt_at a0 x8_2
          replace p11 := eq_true p11
          replace q11 := eq_true q11
          go_wp2
          go_ret
          exact ⟨by first | rfl | (simp; done) | (simp [*]; done), by repeat (first | exact Drawn0.refl _ | apply Drawn0.step)⟩
         ·rw [if_neg c12] at H
          have c12b0 : decide (57 < (bt a0 x8_2)) = false := decide_eq_false c12
          clear c12
          have H' := Aside0.mk H
          clear H
          have p9 : 0 ≤ (x8_2 : Int) := qd_
          have q9 : x8_2 < (a0.size : Int) := qd_
          have hx9 := bt_at a0 x8_2
          replace p9 := eq_true p9
          replace q9 := eq_true q9
          have p11 : 0 ≤ (x8_2 : Int) := qd_
          have q11 : x8_2 < (a0.size : Int) := qd_
          have hx11 := bt_at a0 x8_2
          replace p11 := eq_true p11
          replace q11 := eq_true q11
          have p13 : 0 ≤ (x8_2 : Int) := qd_
          have q13 : x8_2 < (a0.size : Int) := qd_
          have hx13 := bt_at a0 x8_2
          replace p13 := eq_true p13
          replace q13 := eq_true q13
          go_wp2
          go_roundg k2
          case measure => have := HJ3.out; have := HK2.out; omega
          case rel => exact ⟨(wrap64 ((wrap64 ((wrap64 (10 * x7_2)) + (wrap64 (bt a0 x8_2)))) - 48)), (wrap64 (x8_2 + 1)), qr_, qr_, H', ⟨by have := HJ3.out; have := HK2.out; omega⟩, by repeat (first | exact Drawn0.refl _ | apply Drawn0.step)⟩
       ·rw [if_neg c8] at H
        exact absurd H (by simp)
      ·rw [if_neg c7] at H
       have c7b0 : decide (x8_2 < (a0.size : Int)) = false := decide_eq_false c7
       clear c7
       obtain rfl := Option.some.inj H
       go_wp2
       go_ret
       exact ⟨by first | rfl | (simp; done) | (simp [*]; done), by repeat (first | exact Drawn0.refl _ | apply Drawn0.step)⟩

end Go.Proofs.YtmbiggcapakjjaaDoor.P
