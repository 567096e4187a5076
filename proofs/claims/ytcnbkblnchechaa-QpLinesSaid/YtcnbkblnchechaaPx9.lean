-- Written by a program of this session (wip/tools/mk.sh) for this claim: it runs the kit's print with contracts of our own. Lean checks it.
import Derived.Test.YtcnbkblnchechaaPx0
import Derived.Test.YtcnbkblnchechaaPx3
import Derived.Test.YtcnbkblnchechaaPx4
namespace Go.Proofs.Ytcnbkblnchechaa.P
open Go.RowKit Go.Proofs.YtcnbkblnchechaaW.PrintWords Go.Proofs.YtcnbkblnchechaaW.PrintLast Go.Proofs.YtcnbkblnchechaaW.PrintMore
attribute [local go_sem] max2_int min2_int max_two min_two max_three min_three max_four min_four   -- for this text's walks alone
set_option linter.unusedVariables false
set_option linter.unusedSimpArgs false

/-! ### letterboxlaw03_QpLines: function 5 -/
mutual
def letterboxlaw03_QpLines.j0 : Nat → List (List Int) → List Int → Bool → Option (Bool)
  | 0, _, _, _ => none
  | k + 1, x0, x1, x25 => if x25 = true then (some true) else (letterboxlaw03_QpLines.l0 k x0 x1 ([] : List Int) (⟨#[]⟩ : ByteArray) 0)
def letterboxlaw03_QpLines.l0 : Nat → List (List Int) → List Int → List Int → ByteArray → Int → Option (Bool)
  | 0, _, _, _, _, _ => none
  | k + 1, x0, x1, x6, x7, x8 => if x8 < (x0.length : Int) then (if 0 ≤ x8 then (if ((rd_L1 x0 x8).length : Int) > 40 then (some true) else (letterboxlaw03_QpLines.l1 k x0 x1 x6 x7 x8 0)) else (none)) else ((qp_Decode.f k x6).bind fun bt278 => (if bt278.2 = true then (some ((strOfNums bt278.1).toList == x7.toList)) else (some false)))
def letterboxlaw03_QpLines.l1 : Nat → List (List Int) → List Int → List Int → ByteArray → Int → Int → Option (Bool)
  | 0, _, _, _, _, _, _ => none
  | k + 1, x0, x1, x6, x7, x8, x9 => if 0 ≤ x8 then (if x8 < (x0.length : Int) then (if x9 < ((rd_L1 x0 x8).length : Int) then (if 0 ≤ x9 then (if ((33 + (Int.tmod (rd (rd_L1 x0 x8) x9) 94)) % 256) = 61 then (if x6.length < 140737488355328 then ((some (([45] : List Int) : List Int)).bind fun y289 => (if x7.size + (strOfNums y289).size ≤ 9223372036854775807 then (letterboxlaw03_QpLines.l1 k x0 x1 (x6 ++ [45]) (x7 ++ (strOfNums y289)) x8 (wrap64 (x9 + 1))) else (none))) else (none)) else (if x6.length < 140737488355328 then ((some (([(33 + (Int.tmod (rd (rd_L1 x0 x8) x9) 94)) % 256] : List Int) : List Int)).bind fun y295 => (if x7.size + (strOfNums y295).size ≤ 9223372036854775807 then (letterboxlaw03_QpLines.l1 k x0 x1 (x6 ++ [(33 + (Int.tmod (rd (rd_L1 x0 x8) x9) 94)) % 256]) (x7 ++ (strOfNums y295)) x8 (wrap64 (x9 + 1))) else (none))) else (none))) else (none)) else (if x8 < (x1.length : Int) then (if (Go.bits .and .u8 (rd x1 x8) 1) = 1 then ((some (([32, 9] : List Int) : List Int)).bind fun y299 => (if x6.length + y299.length < 140737488355328 then ((some (x6 ++ y299 : List Int)).bind fun y302 => (if (Go.bits .and .u8 (rd x1 x8) 2) = 2 then (if y302.length < 140737488355328 then ((some (y302 ++ [13] : List Int)).bind fun y306 => (if x7.size + 1 ≤ 9223372036854775807 then (if y306.length < 140737488355328 then (if (x7 ++ (⟨#[13]⟩ : ByteArray)).size + 1 ≤ 9223372036854775807 then (letterboxlaw03_QpLines.l0 k x0 x1 (y306 ++ [10]) ((x7 ++ (⟨#[13]⟩ : ByteArray)) ++ (⟨#[10]⟩ : ByteArray)) (wrap64 (x8 + 1))) else (none)) else (none)) else (none))) else (none)) else (if y302.length < 140737488355328 then (if x7.size + 1 ≤ 9223372036854775807 then (letterboxlaw03_QpLines.l0 k x0 x1 (y302 ++ [10]) (x7 ++ (⟨#[10]⟩ : ByteArray)) (wrap64 (x8 + 1))) else (none)) else (none)))) else (none))) else (if (Go.bits .and .u8 (rd x1 x8) 2) = 2 then (if x6.length < 140737488355328 then ((some (x6 ++ [13] : List Int)).bind fun y316 => (if x7.size + 1 ≤ 9223372036854775807 then (if y316.length < 140737488355328 then (if (x7 ++ (⟨#[13]⟩ : ByteArray)).size + 1 ≤ 9223372036854775807 then (letterboxlaw03_QpLines.l0 k x0 x1 (y316 ++ [10]) ((x7 ++ (⟨#[13]⟩ : ByteArray)) ++ (⟨#[10]⟩ : ByteArray)) (wrap64 (x8 + 1))) else (none)) else (none)) else (none))) else (none)) else (if x6.length < 140737488355328 then (if x7.size + 1 ≤ 9223372036854775807 then (letterboxlaw03_QpLines.l0 k x0 x1 (x6 ++ [10]) (x7 ++ (⟨#[10]⟩ : ByteArray)) (wrap64 (x8 + 1))) else (none)) else (none)))) else (none))) else (none)) else (none)
end
def letterboxlaw03_QpLines.f (k : Nat) (l0 : List (List Int)) (l1 : List Int) : Option (Bool) := (letterboxlaw03_awake.f).bind fun t277 => (if t277 = true then (if (l0.length : Int) > 10 then (letterboxlaw03_QpLines.j0 k l0 l1 true) else (letterboxlaw03_QpLines.j0 k l0 l1 (decide ((l1.length : Int) < (l0.length : Int))))) else (some false))
theorem letterboxlaw03_QpLines.mono_l : ∀ k, (∀ y0 y1 y2, LeO (letterboxlaw03_QpLines.j0 k y0 y1 y2) (letterboxlaw03_QpLines.j0 (k + 1) y0 y1 y2)) ∧ (∀ y0 y1 y2 y3 y4, LeO (letterboxlaw03_QpLines.l0 k y0 y1 y2 y3 y4) (letterboxlaw03_QpLines.l0 (k + 1) y0 y1 y2 y3 y4)) ∧ (∀ y0 y1 y2 y3 y4 y5, LeO (letterboxlaw03_QpLines.l1 k y0 y1 y2 y3 y4 y5) (letterboxlaw03_QpLines.l1 (k + 1) y0 y1 y2 y3 y4 y5))
  | 0 => ⟨fun _ _ _ r h => by simp [letterboxlaw03_QpLines.j0] at h, fun _ _ _ _ _ r h => by simp [letterboxlaw03_QpLines.l0] at h, fun _ _ _ _ _ _ r h => by simp [letterboxlaw03_QpLines.l1] at h⟩
  | k + 1 => by
    obtain ⟨ih0, ih1, ih2⟩ := letterboxlaw03_QpLines.mono_l k
    refine ⟨?_, ?_, ?_⟩
    · intro y0 y1 y2
      unfold letterboxlaw03_QpLines.j0
      repeat' first
      | (with_reducible exact ih0 _ _ _)
      | (with_reducible exact ih1 _ _ _ _ _)
      | (with_reducible exact ih2 _ _ _ _ _ _)
      | (with_reducible exact qp_Decode.mono _ _)
      | (with_reducible exact LeO.refl _)
      | (with_reducible exact LeO.none _)
      | (with_reducible refine LeO.ite ?_ ?_)
      | (with_reducible refine LeO.bind ?_ (fun _ => ?_))
      | exact ih0 _ _ _
      | exact ih1 _ _ _ _ _
      | exact ih2 _ _ _ _ _ _
      | exact qp_Decode.mono _ _
      | exact LeO.none _
      | refine LeO.ite ?_ ?_
      | refine LeO.bind ?_ (fun _ => ?_)
    · intro y0 y1 y2 y3 y4
      unfold letterboxlaw03_QpLines.l0
      repeat' first
      | (with_reducible exact ih0 _ _ _)
      | (with_reducible exact ih1 _ _ _ _ _)
      | (with_reducible exact ih2 _ _ _ _ _ _)
      | (with_reducible exact qp_Decode.mono _ _)
      | (with_reducible exact LeO.refl _)
      | (with_reducible exact LeO.none _)
      | (with_reducible refine LeO.ite ?_ ?_)
      | (with_reducible refine LeO.bind ?_ (fun _ => ?_))
      | exact ih0 _ _ _
      | exact ih1 _ _ _ _ _
      | exact ih2 _ _ _ _ _ _
      | exact qp_Decode.mono _ _
      | exact LeO.none _
      | refine LeO.ite ?_ ?_
      | refine LeO.bind ?_ (fun _ => ?_)
    · intro y0 y1 y2 y3 y4 y5
      unfold letterboxlaw03_QpLines.l1
      repeat' first
      | (with_reducible exact ih0 _ _ _)
      | (with_reducible exact ih1 _ _ _ _ _)
      | (with_reducible exact ih2 _ _ _ _ _ _)
      | (with_reducible exact qp_Decode.mono _ _)
      | (with_reducible exact LeO.refl _)
      | (with_reducible exact LeO.none _)
      | (with_reducible refine LeO.ite ?_ ?_)
      | (with_reducible refine LeO.bind ?_ (fun _ => ?_))
      | exact ih0 _ _ _
      | exact ih1 _ _ _ _ _
      | exact ih2 _ _ _ _ _ _
      | exact qp_Decode.mono _ _
      | exact LeO.none _
      | refine LeO.ite ?_ ?_
      | refine LeO.bind ?_ (fun _ => ?_)
theorem letterboxlaw03_QpLines.mono : ∀ a0 a1 k, LeO (letterboxlaw03_QpLines.f k a0 a1) (letterboxlaw03_QpLines.f (k + 1) a0 a1) := by
  intro a0 a1 k
  obtain ⟨ih0, ih1, ih2⟩ := letterboxlaw03_QpLines.mono_l k
  unfold letterboxlaw03_QpLines.f
  repeat' first
      | (with_reducible exact ih0 _ _ _)
      | (with_reducible exact ih1 _ _ _ _ _)
      | (with_reducible exact ih2 _ _ _ _ _ _)
      | (with_reducible exact qp_Decode.mono _ _)
      | (with_reducible exact LeO.refl _)
      | (with_reducible exact LeO.none _)
      | (with_reducible refine LeO.ite ?_ ?_)
      | (with_reducible refine LeO.bind ?_ (fun _ => ?_))
      | exact ih0 _ _ _
      | exact ih1 _ _ _ _ _
      | exact ih2 _ _ _ _ _ _
      | exact qp_Decode.mono _ _
      | exact LeO.none _
      | refine LeO.ite ?_ ?_
      | refine LeO.bind ?_ (fun _ => ?_)
set_option maxHeartbeats 8000000 in
set_option maxRecDepth 100000 in
theorem letterboxlaw03_QpLines.calls (k : Nat) (A0 : Option Addr) (c0 : Nat) (l0 : List (List Int)) (A1 : Option Addr) (c1 : Nat) (l1 : List Int) (r : Bool) (w : World) (hr0 : Kd.C (Kd.slice 5 (Kd.int .u8)) w A0 l0.length l0) (hc0 : l0.length ≤ c0) (hr1 : Kd.C (Kd.int .u8) w A1 l1.length l1) (hc1 : l1.length ≤ c1) (h : letterboxlaw03_QpLines.f k l0 l1 = some r) :
    Calls Try.prog 5 #[.slice A0 l0.length c0, .slice A1 l1.length c1] w fun e w' => e = .returned (.bool r) ∧ Below w.heap.size w w' := by
  have HR0 := Aside0.mk hr0
  have HC0 := Aside0.mk hc0
  clear hr0 hc0
  have HR1 := Aside0.mk hr1
  have HC1 := Aside0.mk hc1
  clear hr1 hc1
  have HB := Aside0.mk (Below.refl w.heap.size w)
  have H : ((letterboxlaw03_awake.f).bind fun t277 => (if t277 = true then (if (l0.length : Int) > 10 then (letterboxlaw03_QpLines.j0 k l0 l1 true) else (letterboxlaw03_QpLines.j0 k l0 l1 (decide ((l1.length : Int) < (l0.length : Int))))) else (some false))) = some r := h
  clear h
  replace H := Option.bind_eq_some_iff.mp H
  obtain ⟨t277, A30, H⟩ := H
  replace H : (if t277 = true then (if (l0.length : Int) > 10 then (letterboxlaw03_QpLines.j0 k l0 l1 true) else (letterboxlaw03_QpLines.j0 k l0 l1 (decide ((l1.length : Int) < (l0.length : Int))))) else (some false)) = some r := H
  have A3 := Aside0.mk A30
  clear A30
  by_cases c4 : t277 = true
  · subst c4
    have H1 : (if (l0.length : Int) > 10 then (letterboxlaw03_QpLines.j0 k l0 l1 true) else (letterboxlaw03_QpLines.j0 k l0 l1 (decide ((l1.length : Int) < (l0.length : Int))))) = some r := by rw [if_pos rfl] at H; exact H
    clear H
    have H := H1
    clear H1
    have HC5 := Aside0.mk H
    clear H
    go_enter Try.func5, Try.ntmps5
    go_upto_region 4 with (first | ((with_reducible refine gate_callee (f := 7) rfl ?_); refine goesL_ (some 13) rfl rfl Try.func7 (by kernel_rfl) rfl #[] rfl (by (try simp only [List.map_toArray, List.map_cons, List.map_nil]); first | done | rfl | (simp only [List.length_drop, List.length_take]; rfl)) ?_; (with_reducible refine (letterboxlaw03_awake.calls  true _ A3.out).mono ?_); rintro e w6 ⟨rfl, hb⟩; refine ⟨_, rfl, ?_⟩; have n0_ := Aside0.mk (below_step (by repeat (first | (with_reducible first | exact HB.out | apply below_alloc | apply pw_below_drewN | apply below_drew1) | exact HB.out)) hb); clear HB; have HB := n0_; clear n0_; (try clear hb); (try clear hb2); (try clear hk); (try clear hi)))
    (try simp only [Act.put, List.setIfInBounds_toArray, List.set_cons_zero, List.set_cons_succ])
    go_cut [25] (fun v25 wc => ∃ (kq : Nat) (x25_4 : Bool), v25 = .bool x25_4 ∧ Aside0 (letterboxlaw03_QpLines.j0 kq l0 l1 x25_4 = some r) ∧ Aside0 (kq ≤ k) ∧ Aside0 (Below w.heap.size w wc))
    case first =>
      have H := HC5.out
      clear HC5
      by_cases c7 : (l0.length : Int) > 10
      · rw [if_pos c7] at H
        have c7b0 : decide (10 < (l0.length : Int)) = true := decide_eq_true c7
        have c7b1 : decide (10 < l0.length) = true := decide_eq_true (by omega)
        clear c7
        (first | rw [c7b0] | (simp only [i64_w, i32_w]; rw [c7b0]) | skip)
        have H' := Aside0.mk H
        clear H
        go_wp2
        go_meet
        case rel => exact ⟨_, (true), (by first | rfl | (simp; done) | (simp [*]; done)), H', ⟨by first | omega | exact Nat.le_refl _⟩, ⟨by repeat (first | (with_reducible first | exact HB.out | apply below_alloc | apply pw_below_drewN | apply below_drew1) | exact HB.out)⟩⟩
      · rw [if_neg c7] at H
        have c7b0 : decide (10 < (l0.length : Int)) = false := decide_eq_false c7
        have c7b1 : decide (10 < l0.length) = false := decide_eq_false (by omega)
        clear c7
        (first | rw [c7b0] | (simp only [i64_w, i32_w]; rw [c7b0]) | skip)
        have H' := Aside0.mk H
        clear H
        go_wp2
        go_meet
        case rel => exact ⟨_, (decide ((l1.length : Int) < (l0.length : Int))), (by first | rfl | (simp; done) | (simp [*]; done)), H', ⟨by first | omega | exact Nat.le_refl _⟩, ⟨by repeat (first | (with_reducible first | exact HB.out | apply below_alloc | apply pw_below_drewN | apply below_drew1) | exact HB.out)⟩⟩
    case rest =>
      clear HC5
      try clear c1
      try clear p2
      try clear c4
      try clear c5
      try clear c7
      try clear c7b0
      try clear c7b1
      obtain ⟨kq, x25_4, rfl, HA, HJ4, HB⟩ := hcut
      cases kq with
      | zero => exact absurd HA.out (by simp [letterboxlaw03_QpLines.j0])
      | succ kj4 =>
        have H := HA.out
        clear HA
        simp only [letterboxlaw03_QpLines.j0] at H
        by_cases c8 : x25_4 = true
        · subst c8
          have H1 : (some true) = some r := by rw [if_pos rfl] at H; exact H
          clear H
          have H := H1
          clear H1
          obtain rfl := Option.some.inj H
          go_wp2
          go_ret
          exact ⟨by first | rfl | (simp [errW_none, errW_some] <;> rfl) | (simp [*, errW_none, errW_some] <;> rfl), by repeat (first | (with_reducible first | exact HB.out | apply below_alloc | apply pw_below_drewN | apply below_drew1) | exact HB.out)⟩
        · replace c8 := Bool.eq_false_iff.mpr c8
          subst c8
          have H1 : (letterboxlaw03_QpLines.l0 kj4 l0 l1 ([] : List Int) (⟨#[]⟩ : ByteArray) 0) = some r := by rw [if_neg (show ¬ (false = true) by decide)] at H; exact H
          clear H
          have H := H1
          clear H1
          have H' := Aside0.mk H
          clear H
          go_wp2
          go_loopg [6, 7, 8] kj4 (fun kq v6 v7 v8 w' => ∃ (x6_2 : List Int) (x7_2 : ByteArray) (x8_2 : Int), v7 = .string x7_2 ∧ v8 = .int .i64 x8_2 ∧ Aside0 (letterboxlaw03_QpLines.l0 kq l0 l1 x6_2 x7_2 x8_2 = some r) ∧ Aside0 (kq ≤ kj4) ∧ Aside0 (Kd.R (Kd.int .u8) 5 w' w.heap.size (fun _ => True) v6 x6_2) ∧ Aside0 (Below w.heap.size w w'))
          case atStart => exact ⟨(([] : List Int)), ((⟨#[]⟩ : ByteArray)), (0), (by first | rfl | (simp; done) | (simp [*]; done)), (by first | rfl | (simp; done) | (simp [*]; done)), H', ⟨Nat.le_refl _⟩, ⟨by first | exact Kd.R_nil _ _ _ _ _ | exact Kd.N_nil _ _ _ _ _ | exact Kd.V_nil _ _ _ _ _ | exact Kd.Q_nil _ _ _ _ _ | exact Kd.S_nil _ _ _ _ _⟩, ⟨by repeat (first | (with_reducible first | exact HB.out | apply below_alloc | apply pw_below_drewN | apply below_drew1) | exact HB.out)⟩⟩
          case round =>
            clear H'
            try clear c1
            try clear p2
            try clear c4
            try clear c5
            try clear c7
            try clear c7b0
            try clear c7b1
            try clear c8
            try clear p2
            obtain ⟨x6_2, x7_2, x8_2, rfl, rfl, HA, HK2, HO_6, HB⟩ := hrel
            cases gk with
            | zero => exact absurd HA.out (by simp [letterboxlaw03_QpLines.l0])
            | succ k2 =>
              have H := HA.out
              clear HA
              simp only [letterboxlaw03_QpLines.l0] at H
              by_cases c9 : x8_2 < (l0.length : Int)
              · rw [if_pos c9] at H
                have c9b0 : decide (x8_2 < (l0.length : Int)) = true := decide_eq_true c9
                clear c9
                by_cases c10 : 0 ≤ x8_2
                · rw [if_pos c10] at H
                  have c10b0 : decide (0 ≤ x8_2) = true := decide_eq_true c10
                  clear c10
                  by_cases c11 : ((rd_L1 l0 x8_2).length : Int) > 40
                  · rw [if_pos c11] at H
                    have c11b0 : decide (40 < ((rd_L1 l0 x8_2).length : Int)) = true := decide_eq_true c11
                    have c11b1 : decide (40 < (rd_L1 l0 x8_2).length) = true := decide_eq_true (by omega)
                    clear c11
                    obtain rfl := Option.some.inj H
                    have p282 : 0 ≤ (x8_2 : Int) := of_decide_eq_true (by first | (with_reducible assumption) | assumption)
                    have q282 : x8_2 < (l0.length : Int) := of_decide_eq_true (by first | (with_reducible assumption) | assumption)
                    obtain ⟨ad282, A282_0, c282_0, e282, hx282_0, hl282_0, hi282_0⟩ := at_L1 HR0.out x8_2 p282 q282
                    cases e282
                    replace hx282_0 := (HB.out.cell (World.block_lt_of_cell? w _ hx282_0)).trans hx282_0
                    have HR282_0 := Aside0.mk hi282_0
                    have HC282_0 := Aside0.mk hl282_0
                    clear hi282_0 hl282_0
                    replace p282 := eq_true p282
                    replace q282 := eq_true q282
                    go_wp2
                    go_ret
                    exact ⟨by first | rfl | (simp [errW_none, errW_some] <;> rfl) | (simp [*, errW_none, errW_some] <;> rfl), by repeat (first | (with_reducible first | exact HB.out | apply below_alloc | apply pw_below_drewN | apply below_drew1) | exact HB.out)⟩
                  · rw [if_neg c11] at H
                    have c11b0 : decide (40 < ((rd_L1 l0 x8_2).length : Int)) = false := decide_eq_false c11
                    have c11b1 : decide (40 < (rd_L1 l0 x8_2).length) = false := decide_eq_false (by omega)
                    clear c11
                    have H' := Aside0.mk H
                    clear H
                    have p282 : 0 ≤ (x8_2 : Int) := of_decide_eq_true (by first | (with_reducible assumption) | assumption)
                    have q282 : x8_2 < (l0.length : Int) := of_decide_eq_true (by first | (with_reducible assumption) | assumption)
                    obtain ⟨ad282, A282_0, c282_0, e282, hx282_0, hl282_0, hi282_0⟩ := at_L1 HR0.out x8_2 p282 q282
                    cases e282
                    replace hx282_0 := (HB.out.cell (World.block_lt_of_cell? w _ hx282_0)).trans hx282_0
                    have HR282_0 := Aside0.mk hi282_0
                    have HC282_0 := Aside0.mk hl282_0
                    clear hi282_0 hl282_0
                    replace p282 := eq_true p282
                    replace q282 := eq_true q282
                    go_wp2
                    go_loopg [6, 7, 9] k2 (fun kq v6 v7 v9 w' => ∃ (x6_3 : List Int) (x7_3 : ByteArray) (x9_3 : Int), v7 = .string x7_3 ∧ v9 = .int .i64 x9_3 ∧ Aside0 (letterboxlaw03_QpLines.l1 kq l0 l1 x6_3 x7_3 x8_2 x9_3 = some r) ∧ Aside0 (kq ≤ k2) ∧ Aside0 (Kd.R (Kd.int .u8) 5 w' w.heap.size (fun _ => True) v6 x6_3) ∧ Aside0 (Below w.heap.size w w'))
                    case atStart => exact ⟨(x6_2), (x7_2), (0), (by first | rfl | (simp; done) | (simp [*]; done)), (by first | rfl | (simp; done) | (simp [*]; done)), H', ⟨Nat.le_refl _⟩, ⟨by (with_reducible repeat (first | apply Kd.R_alloc | apply Kd.R_drewN | apply Kd.R_drew)); exact HO_6.out⟩, ⟨by repeat (first | (with_reducible first | exact HB.out | apply below_alloc | apply pw_below_drewN | apply below_drew1) | exact HB.out)⟩⟩
                    case round =>
                      clear H'
                      try clear c1
                      try clear c2
                      try clear p2
                      try clear q2
                      try clear hx2
                      try clear c4
                      try clear c5
                      try clear c7
                      try clear c7b0
                      try clear c7b1
                      try clear c8
                      try clear c9
                      try clear c9b0
                      try clear c10
                      try clear c10b0
                      try clear c11
                      try clear c11b0
                      try clear c11b1
                      try clear hx282_0
                      try clear p2
                      try clear p282
                      try clear q282
                      obtain ⟨x6_3, x7_3, x9_3, rfl, rfl, HA, HK3, HO_6, HB⟩ := hrel
                      cases gk with
                      | zero => exact absurd HA.out (by simp [letterboxlaw03_QpLines.l1])
                      | succ k3 =>
                        have H := HA.out
                        clear HA
                        simp only [letterboxlaw03_QpLines.l1] at H
                        by_cases c12 : 0 ≤ x8_2
                        · rw [if_pos c12] at H
                          have c12b0 : decide (0 ≤ x8_2) = true := decide_eq_true c12
                          clear c12
                          by_cases c13 : x8_2 < (l0.length : Int)
                          · rw [if_pos c13] at H
                            have c13b0 : decide (x8_2 < (l0.length : Int)) = true := decide_eq_true c13
                            clear c13
                            by_cases c14 : x9_3 < ((rd_L1 l0 x8_2).length : Int)
                            · rw [if_pos c14] at H
                              have c14b0 : decide (x9_3 < ((rd_L1 l0 x8_2).length : Int)) = true := decide_eq_true c14
                              clear c14
                              by_cases c15 : 0 ≤ x9_3
                              · rw [if_pos c15] at H
                                have c15b0 : decide (0 ≤ x9_3) = true := decide_eq_true c15
                                clear c15
                                by_cases c16 : ((33 + (Int.tmod (rd (rd_L1 l0 x8_2) x9_3) 94)) % 256) = 61
                                · rw [if_pos c16] at H
                                  have c16b0 : (((33 + (Int.tmod (rd (rd_L1 l0 x8_2) x9_3) 94)) % 256) == 61) = true := beq_iff_eq.mpr c16
                                  have c16b1 : (((33 + (Int.tmod (rd (rd_L1 l0 x8_2) x9_3) 94)) % 256) != 61) = false := bne_eq_false_iff_eq.mpr c16
                                  clear c16
                                  by_cases c17 : x6_3.length < 140737488355328
                                  · rw [if_pos c17] at H
                                    have LMc17 := Aside0.mk c17
                                    clear c17
                                    obtain ⟨y286, hy286⟩ : ∃ y_ : List Int, y_ = (x6_3 ++ [45]) := ⟨_, rfl⟩
                                    replace H : ((some (([45] : List Int) : List Int)).bind fun y289 => (if x7_3.size + (strOfNums y289).size ≤ 9223372036854775807 then (letterboxlaw03_QpLines.l1 k3 l0 l1 y286 (x7_3 ++ (strOfNums y289)) x8_2 (wrap64 (x9_3 + 1))) else (none))) = some r := by first | (rw [hy286]; with_reducible exact H) | (have H2_ := (Option.bind_some _ _).symm.trans H; rw [hy286]; with_reducible exact H2_) | (have H2_ := (Option.bind_some _ _).symm.trans H; with_reducible exact H2_) | with_reducible exact H | (rw [hy286]; exact H) | exact H
                                    have Ny286 := Aside0.mk hy286
                                    clear hy286
                                    obtain ⟨y289, hy289⟩ : ∃ y_ : List Int, y_ = (([45] : List Int)) := ⟨_, rfl⟩
                                    replace H : (if x7_3.size + (strOfNums y289).size ≤ 9223372036854775807 then (letterboxlaw03_QpLines.l1 k3 l0 l1 y286 (x7_3 ++ (strOfNums y289)) x8_2 (wrap64 (x9_3 + 1))) else (none)) = some r := by first | (rw [hy289]; with_reducible exact H) | (have H2_ := (Option.bind_some _ _).symm.trans H; rw [hy289]; with_reducible exact H2_) | (have H2_ := (Option.bind_some _ _).symm.trans H; with_reducible exact H2_) | with_reducible exact H | (rw [hy289]; exact H) | exact H
                                    have Ny289 := Aside0.mk hy289
                                    clear hy289
                                    by_cases c18 : x7_3.size + (strOfNums y289).size ≤ 9223372036854775807
                                    · rw [if_pos c18] at H
                                      have c18b0 := eq_true c18
                                      have c18b1 : decide (x7_3.size + (strOfNums y289).size ≤ 9223372036854775807) = true := decide_eq_true c18
                                      try have c18b2 : (9223372036854775807 < x7_3.size + (strOfNums y289).size) = False := eq_false (Nat.not_lt.2 c18)
                                      have H' := Aside0.mk H
                                      clear H
                                      have p283 : 0 ≤ (x8_2 : Int) := of_decide_eq_true (by first | (with_reducible assumption) | assumption)
                                      have q283 : x8_2 < (l0.length : Int) := of_decide_eq_true (by first | (with_reducible assumption) | assumption)
                                      obtain ⟨ad283, A283_0, c283_0, e283, hx283_0, hl283_0, hi283_0⟩ := at_L1 HR0.out x8_2 p283 q283
                                      obtain rfl : ad282 = ad283 := (by injection e283)
                                      replace hx283_0 := (HB.out.cell (World.block_lt_of_cell? w _ hx283_0)).trans hx283_0
                                      have HR283_0 := Aside0.mk hi283_0
                                      have HC283_0 := Aside0.mk hl283_0
                                      clear hi283_0 hl283_0
                                      replace p283 := eq_true p283
                                      replace q283 := eq_true q283
                                      have p284 : 0 ≤ (x8_2 : Int) := of_decide_eq_true (by first | (with_reducible assumption) | assumption)
                                      have q284 : x8_2 < (l0.length : Int) := of_decide_eq_true (by first | (with_reducible assumption) | assumption)
                                      obtain ⟨ad284, A284_0, c284_0, e284, hx284_0, hl284_0, hi284_0⟩ := at_L1 HR0.out x8_2 p284 q284
                                      obtain rfl : ad282 = ad284 := (by injection e284)
                                      replace hx284_0 := (HB.out.cell (World.block_lt_of_cell? w _ hx284_0)).trans hx284_0
                                      have HR284_0 := Aside0.mk hi284_0
                                      have HC284_0 := Aside0.mk hl284_0
                                      clear hi284_0 hl284_0
                                      replace p284 := eq_true p284
                                      replace q284 := eq_true q284
                                      have ea_ := Option.some.inj (hx283_0.symm.trans hx284_0)
                                      injection ea_ with ea_ en_ ec_
                                      subst ea_
                                      subst ec_
                                      clear en_
                                      have p285 : 0 ≤ (x9_3 : Int) := of_decide_eq_true (by first | (with_reducible assumption) | assumption)
                                      have q285 : x9_3 < ((rd_L1 l0 x8_2).length : Int) := of_decide_eq_true (by first | (with_reducible assumption) | assumption)
                                      obtain ⟨ad285, e285, hx285_0⟩ := Kd.at_int HR284_0.out x9_3 p285 q285
                                      cases e285
                                      replace hx285_0 := (HB.out.cell (World.block_lt_of_cell? w _ hx285_0)).trans hx285_0
                                      replace p285 := eq_true p285
                                      replace q285 := eq_true q285
                                      go_wp2_with (first | ((with_reducible refine gate_builtin (b := .append) (xs := #[.tmp 58, .tmp 60]) rfl ?_); (try (refine gate_guard (by rfl) ?_; dsimp only)); at_builtin; refine Kd.R_append (Kd.int .u8) (w0 := w) w.heap.size rfl (.tmp 58) (.tmp 60) 22 5 (.int .u8 0) 1 rfl Try.underlying22 info5 rfl (by decide) (by omega) u6 x6_3 45 [.int .u8 45] (fun _ => True) (fun _ => False) rfl rfl ?aP (fun _ hk => hk.elim) ?aF ?aO ?aB ?aS ?aL ?_; (case aP => exact rfl); (case aB => exact (by repeat (first | (with_reducible first | exact HB.out | apply below_alloc | apply pw_below_drewN | apply below_drew1) | exact HB.out))); (case aF => exact (fun _ _ => trivial)); (case aO => exact (by (with_reducible repeat (first | apply Kd.R_alloc | apply Kd.R_drewN | apply Kd.R_drew)); exact HO_6.out)); (case aS => exact (below_size (by repeat (first | (with_reducible first | exact HB.out | apply below_alloc | apply pw_below_drewN | apply below_drew1) | exact HB.out)))); (case aL => have := LMc17.out; omega); intro v287 w19 ho hb hg hat; rw [← Ny286.out] at ho; have n0_ := Aside0.mk (hb); have n1_ := Aside0.mk (ho); clear HB; clear HO_6; have HB := n0_; have HO288 := n1_; clear n0_ n1_; clear ho hb hg hat) | ((with_reducible refine gate_dst (N := 64) rfl ?_); (try (refine gate_guard (by rfl) ?_; dsimp only)); refine Kd.R_lit (Kd.int .u8) _ 5 ?hg (N := 64) ?hd (xs := ([45] : List Int)) (inner := [.int .u8 45]) (ok := fun _ => True) (okp := fun _ => True) ?hr ?hp (fun _ hk => hk) trivial (Below.refl _ _) (Nat.le_refl _) (by simp) ?_; (case hd => rfl); (case hg => rfl); (case hr => first | (go_simp; done) | (go_simp; rfl)); (case hp => exact (Reps.one (show Kd.M (Kd.int .u8) _ _ _ 45 [.int .u8 45] from rfl) (Reps.none _ _))); intro v290 w20 ho21 hb hg_ hnew_; clear hg_ hnew_; (first | rw [← Ny289.out] at ho21 | (simp only [Int.reduceToNat] at ho21; rw [← Ny289.out] at ho21)); have n0_ := Aside0.mk (Kd.R_elder' (by (with_reducible repeat (first | apply Kd.R_alloc | apply Kd.R_drewN | apply Kd.R_drew)); exact HO288.out) (Kd.R_base ho21) hb); have n1_ := Aside0.mk (Kd.R_lower (Kd.R_new' ho21 (Kd.R_lt (by (with_reducible repeat (first | apply Kd.R_alloc | apply Kd.R_drewN | apply Kd.R_drew)); exact HO288.out))) (below_size (by repeat (first | (with_reducible first | exact HB.out | apply below_alloc | apply pw_below_drewN | apply below_drew1) | exact HB.out)))); have n2_ := Aside0.mk (below_step (by repeat (first | (with_reducible first | exact HB.out | apply below_alloc | apply pw_below_drewN | apply below_drew1) | exact HB.out)) hb); clear HO288; clear HB; have HO288 := n0_; have HO291 := n1_; have HB := n2_; clear n0_ n1_ n2_; clear hb ho21; have hcv22 := fun n_ : Nat => own_string (P := Try.prog) Try.underlying22 Try.underlying5 Try.underlying9 (Kd.own_of_R (Kd.R_drewN HO291.out n_)); have hcv23 := fun m_ n_ : Nat => own_string (P := Try.prog) Try.underlying22 Try.underlying5 Try.underlying9 (Kd.own_of_R (Kd.R_drewN (Kd.R_drewN HO291.out m_) n_)); have hcv24 := own_string (P := Try.prog) Try.underlying22 Try.underlying5 Try.underlying9 (Kd.own_of_R HO291.out)))
                                      go_roundg k3
                                      case measure => have := HJ4.out; have := HK2.out; have := HK3.out; omega
                                      case rel => exact ⟨(y286), (x7_3 ++ (strOfNums y289)), (wrap64 (x9_3 + 1)), (by first | rfl | (simp; done) | (simp [*]; done)), (by first | rfl | (simp; done) | (simp [*]; done)), H', ⟨by have := HJ4.out; have := HK2.out; have := HK3.out; omega⟩, ⟨by (with_reducible repeat (first | apply Kd.R_alloc | apply Kd.R_drewN | apply Kd.R_drew)); exact Kd.R_mono HO288.out (fun _ hk => trivial)⟩, ⟨by repeat (first | (with_reducible first | exact HB.out | apply below_alloc | apply pw_below_drewN | apply below_drew1) | exact HB.out)⟩⟩
                                    · rw [if_neg c18] at H
                                      exact absurd H (by simp)
                                  · rw [if_neg c17] at H
                                    exact absurd H (by simp)
                                · rw [if_neg c16] at H
                                  have c16b0 : (((33 + (Int.tmod (rd (rd_L1 l0 x8_2) x9_3) 94)) % 256) == 61) = false := beq_eq_false_iff_ne.mpr c16
                                  have c16b1 : (((33 + (Int.tmod (rd (rd_L1 l0 x8_2) x9_3) 94)) % 256) != 61) = true := bne_iff_ne.mpr c16
                                  by_cases c25 : x6_3.length < 140737488355328
                                  · rw [if_pos c25] at H
                                    have LMc25 := Aside0.mk c25
                                    clear c25
                                    obtain ⟨y292, hy292⟩ : ∃ y_ : List Int, y_ = (x6_3 ++ [(33 + (Int.tmod (rd (rd_L1 l0 x8_2) x9_3) 94)) % 256]) := ⟨_, rfl⟩
                                    replace H : ((some (([(33 + (Int.tmod (rd (rd_L1 l0 x8_2) x9_3) 94)) % 256] : List Int) : List Int)).bind fun y295 => (if x7_3.size + (strOfNums y295).size ≤ 9223372036854775807 then (letterboxlaw03_QpLines.l1 k3 l0 l1 y292 (x7_3 ++ (strOfNums y295)) x8_2 (wrap64 (x9_3 + 1))) else (none))) = some r := by first | (rw [hy292]; with_reducible exact H) | (have H2_ := (Option.bind_some _ _).symm.trans H; rw [hy292]; with_reducible exact H2_) | (have H2_ := (Option.bind_some _ _).symm.trans H; with_reducible exact H2_) | with_reducible exact H | (rw [hy292]; exact H) | exact H
                                    have Ny292 := Aside0.mk hy292
                                    clear hy292
                                    obtain ⟨y295, hy295⟩ : ∃ y_ : List Int, y_ = (([(33 + (Int.tmod (rd (rd_L1 l0 x8_2) x9_3) 94)) % 256] : List Int)) := ⟨_, rfl⟩
                                    replace H : (if x7_3.size + (strOfNums y295).size ≤ 9223372036854775807 then (letterboxlaw03_QpLines.l1 k3 l0 l1 y292 (x7_3 ++ (strOfNums y295)) x8_2 (wrap64 (x9_3 + 1))) else (none)) = some r := by first | (rw [hy295]; with_reducible exact H) | (have H2_ := (Option.bind_some _ _).symm.trans H; rw [hy295]; with_reducible exact H2_) | (have H2_ := (Option.bind_some _ _).symm.trans H; with_reducible exact H2_) | with_reducible exact H | (rw [hy295]; exact H) | exact H
                                    have Ny295 := Aside0.mk hy295
                                    clear hy295
                                    by_cases c26 : x7_3.size + (strOfNums y295).size ≤ 9223372036854775807
                                    · rw [if_pos c26] at H
                                      have c26b0 := eq_true c26
                                      have c26b1 : decide (x7_3.size + (strOfNums y295).size ≤ 9223372036854775807) = true := decide_eq_true c26
                                      try have c26b2 : (9223372036854775807 < x7_3.size + (strOfNums y295).size) = False := eq_false (Nat.not_lt.2 c26)
                                      have H' := Aside0.mk H
                                      clear H
                                      have p283 : 0 ≤ (x8_2 : Int) := of_decide_eq_true (by first | (with_reducible assumption) | assumption)
                                      have q283 : x8_2 < (l0.length : Int) := of_decide_eq_true (by first | (with_reducible assumption) | assumption)
                                      obtain ⟨ad283, A283_0, c283_0, e283, hx283_0, hl283_0, hi283_0⟩ := at_L1 HR0.out x8_2 p283 q283
                                      obtain rfl : ad282 = ad283 := (by injection e283)
                                      replace hx283_0 := (HB.out.cell (World.block_lt_of_cell? w _ hx283_0)).trans hx283_0
                                      have HR283_0 := Aside0.mk hi283_0
                                      have HC283_0 := Aside0.mk hl283_0
                                      clear hi283_0 hl283_0
                                      replace p283 := eq_true p283
                                      replace q283 := eq_true q283
                                      have p284 : 0 ≤ (x8_2 : Int) := of_decide_eq_true (by first | (with_reducible assumption) | assumption)
                                      have q284 : x8_2 < (l0.length : Int) := of_decide_eq_true (by first | (with_reducible assumption) | assumption)
                                      obtain ⟨ad284, A284_0, c284_0, e284, hx284_0, hl284_0, hi284_0⟩ := at_L1 HR0.out x8_2 p284 q284
                                      obtain rfl : ad282 = ad284 := (by injection e284)
                                      replace hx284_0 := (HB.out.cell (World.block_lt_of_cell? w _ hx284_0)).trans hx284_0
                                      have HR284_0 := Aside0.mk hi284_0
                                      have HC284_0 := Aside0.mk hl284_0
                                      clear hi284_0 hl284_0
                                      replace p284 := eq_true p284
                                      replace q284 := eq_true q284
                                      have ea_ := Option.some.inj (hx283_0.symm.trans hx284_0)
                                      injection ea_ with ea_ en_ ec_
                                      subst ea_
                                      subst ec_
                                      clear en_
                                      have p285 : 0 ≤ (x9_3 : Int) := of_decide_eq_true (by first | (with_reducible assumption) | assumption)
                                      have q285 : x9_3 < ((rd_L1 l0 x8_2).length : Int) := of_decide_eq_true (by first | (with_reducible assumption) | assumption)
                                      obtain ⟨ad285, e285, hx285_0⟩ := Kd.at_int HR284_0.out x9_3 p285 q285
                                      cases e285
                                      replace hx285_0 := (HB.out.cell (World.block_lt_of_cell? w _ hx285_0)).trans hx285_0
                                      replace p285 := eq_true p285
                                      replace q285 := eq_true q285
                                      go_wp2_with (first | ((with_reducible refine gate_builtin (b := .append) (xs := #[.tmp 58, .tmp 60]) rfl ?_); (try (refine gate_guard (by rfl) ?_; dsimp only)); at_builtin; refine Kd.R_append (Kd.int .u8) (w0 := w) w.heap.size rfl (.tmp 58) (.tmp 60) 22 5 (.int .u8 0) 1 rfl Try.underlying22 info5 rfl (by decide) (by omega) u6 x6_3 ((33 + (Int.tmod (rd (rd_L1 l0 x8_2) x9_3) 94)) % 256) [.int .u8 ((33 + (Int.tmod (rd (rd_L1 l0 x8_2) x9_3) 94)) % 256)] (fun _ => True) (fun _ => False) rfl rfl ?aP (fun _ hk => hk.elim) ?aF ?aO ?aB ?aS ?aL ?_; (case aP => exact rfl); (case aB => exact (by repeat (first | (with_reducible first | exact HB.out | apply below_alloc | apply pw_below_drewN | apply below_drew1) | exact HB.out))); (case aF => exact (fun _ _ => trivial)); (case aO => exact (by (with_reducible repeat (first | apply Kd.R_alloc | apply Kd.R_drewN | apply Kd.R_drew)); exact HO_6.out)); (case aS => exact (below_size (by repeat (first | (with_reducible first | exact HB.out | apply below_alloc | apply pw_below_drewN | apply below_drew1) | exact HB.out)))); (case aL => have := LMc25.out; omega); intro v293 w27 ho hb hg hat; rw [← Ny292.out] at ho; have n0_ := Aside0.mk (hb); have n1_ := Aside0.mk (ho); clear HB; clear HO_6; have HB := n0_; have HO294 := n1_; clear n0_ n1_; clear ho hb hg hat) | ((with_reducible refine gate_dst (N := 64) rfl ?_); (try (refine gate_guard (by rfl) ?_; dsimp only)); refine Kd.R_lit (Kd.int .u8) _ 5 ?hg (N := 64) ?hd (xs := ([(33 + (Int.tmod (rd (rd_L1 l0 x8_2) x9_3) 94)) % 256] : List Int)) (inner := [.int .u8 ((33 + (Int.tmod (rd (rd_L1 l0 x8_2) x9_3) 94)) % 256)]) (ok := fun _ => True) (okp := fun _ => True) ?hr ?hp (fun _ hk => hk) trivial (Below.refl _ _) (Nat.le_refl _) (by simp) ?_; (case hd => rfl); (case hg => rfl); (case hr => first | (go_simp; done) | (go_simp; rfl)); (case hp => exact (Reps.one (show Kd.M (Kd.int .u8) _ _ _ ((33 + (Int.tmod (rd (rd_L1 l0 x8_2) x9_3) 94)) % 256) [.int .u8 ((33 + (Int.tmod (rd (rd_L1 l0 x8_2) x9_3) 94)) % 256)] from rfl) (Reps.none _ _))); intro v296 w28 ho29 hb hg_ hnew_; clear hg_ hnew_; (first | rw [← Ny295.out] at ho29 | (simp only [Int.reduceToNat] at ho29; rw [← Ny295.out] at ho29)); have n0_ := Aside0.mk (Kd.R_elder' (by (with_reducible repeat (first | apply Kd.R_alloc | apply Kd.R_drewN | apply Kd.R_drew)); exact HO294.out) (Kd.R_base ho29) hb); have n1_ := Aside0.mk (Kd.R_lower (Kd.R_new' ho29 (Kd.R_lt (by (with_reducible repeat (first | apply Kd.R_alloc | apply Kd.R_drewN | apply Kd.R_drew)); exact HO294.out))) (below_size (by repeat (first | (with_reducible first | exact HB.out | apply below_alloc | apply pw_below_drewN | apply below_drew1) | exact HB.out)))); have n2_ := Aside0.mk (below_step (by repeat (first | (with_reducible first | exact HB.out | apply below_alloc | apply pw_below_drewN | apply below_drew1) | exact HB.out)) hb); clear HO294; clear HB; have HO294 := n0_; have HO297 := n1_; have HB := n2_; clear n0_ n1_ n2_; clear hb ho29; have hcv30 := fun n_ : Nat => own_string (P := Try.prog) Try.underlying22 Try.underlying5 Try.underlying9 (Kd.own_of_R (Kd.R_drewN HO297.out n_)); have hcv31 := fun m_ n_ : Nat => own_string (P := Try.prog) Try.underlying22 Try.underlying5 Try.underlying9 (Kd.own_of_R (Kd.R_drewN (Kd.R_drewN HO297.out m_) n_)); have hcv32 := own_string (P := Try.prog) Try.underlying22 Try.underlying5 Try.underlying9 (Kd.own_of_R HO297.out)))
                                      go_roundg k3
                                      case measure => have := HJ4.out; have := HK2.out; have := HK3.out; omega
                                      case rel => exact ⟨(y292), (x7_3 ++ (strOfNums y295)), (wrap64 (x9_3 + 1)), (by first | rfl | (simp; done) | (simp [*]; done)), (by first | rfl | (simp; done) | (simp [*]; done)), H', ⟨by have := HJ4.out; have := HK2.out; have := HK3.out; omega⟩, ⟨by (with_reducible repeat (first | apply Kd.R_alloc | apply Kd.R_drewN | apply Kd.R_drew)); exact Kd.R_mono HO294.out (fun _ hk => trivial)⟩, ⟨by repeat (first | (with_reducible first | exact HB.out | apply below_alloc | apply pw_below_drewN | apply below_drew1) | exact HB.out)⟩⟩
                                    · rw [if_neg c26] at H
                                      exact absurd H (by simp)
                                  · rw [if_neg c25] at H
                                    exact absurd H (by simp)
                              · rw [if_neg c15] at H
                                exact absurd H (by simp)
                            · rw [if_neg c14] at H
                              have c14b0 : decide (x9_3 < ((rd_L1 l0 x8_2).length : Int)) = false := decide_eq_false c14
                              clear c14
                              by_cases c33 : x8_2 < (l1.length : Int)
                              · rw [if_pos c33] at H
                                have c33b0 : decide (x8_2 < (l1.length : Int)) = true := decide_eq_true c33
                                clear c33
                                by_cases c34 : (Go.bits .and .u8 (rd l1 x8_2) 1) = 1
                                · rw [if_pos c34] at H
                                  have c34b0 : ((Go.bits .and .u8 (rd l1 x8_2) 1) == 1) = true := beq_iff_eq.mpr c34
                                  have c34b1 : ((Go.bits .and .u8 (rd l1 x8_2) 1) != 1) = false := bne_eq_false_iff_eq.mpr c34
                                  clear c34
                                  obtain ⟨y299, hy299⟩ : ∃ y_ : List Int, y_ = (([32, 9] : List Int)) := ⟨_, rfl⟩
                                  replace H : (if x6_3.length + y299.length < 140737488355328 then ((some (x6_3 ++ y299 : List Int)).bind fun y302 => (if (Go.bits .and .u8 (rd l1 x8_2) 2) = 2 then (if y302.length < 140737488355328 then ((some (y302 ++ [13] : List Int)).bind fun y306 => (if x7_3.size + 1 ≤ 9223372036854775807 then (if y306.length < 140737488355328 then (if (x7_3 ++ (⟨#[13]⟩ : ByteArray)).size + 1 ≤ 9223372036854775807 then (letterboxlaw03_QpLines.l0 k3 l0 l1 (y306 ++ [10]) ((x7_3 ++ (⟨#[13]⟩ : ByteArray)) ++ (⟨#[10]⟩ : ByteArray)) (wrap64 (x8_2 + 1))) else (none)) else (none)) else (none))) else (none)) else (if y302.length < 140737488355328 then (if x7_3.size + 1 ≤ 9223372036854775807 then (letterboxlaw03_QpLines.l0 k3 l0 l1 (y302 ++ [10]) (x7_3 ++ (⟨#[10]⟩ : ByteArray)) (wrap64 (x8_2 + 1))) else (none)) else (none)))) else (none)) = some r := by first | (rw [hy299]; with_reducible exact H) | (have H2_ := (Option.bind_some _ _).symm.trans H; rw [hy299]; with_reducible exact H2_) | (have H2_ := (Option.bind_some _ _).symm.trans H; with_reducible exact H2_) | with_reducible exact H | (rw [hy299]; exact H) | exact H
                                  have Ny299 := Aside0.mk hy299
                                  clear hy299
                                  by_cases c35 : x6_3.length + y299.length < 140737488355328
                                  · rw [if_pos c35] at H
                                    have LMc35 := Aside0.mk c35
                                    clear c35
                                    obtain ⟨y302, hy302⟩ : ∃ y_ : List Int, y_ = (x6_3 ++ y299) := ⟨_, rfl⟩
                                    replace H : (if (Go.bits .and .u8 (rd l1 x8_2) 2) = 2 then (if y302.length < 140737488355328 then ((some (y302 ++ [13] : List Int)).bind fun y306 => (if x7_3.size + 1 ≤ 9223372036854775807 then (if y306.length < 140737488355328 then (if (x7_3 ++ (⟨#[13]⟩ : ByteArray)).size + 1 ≤ 9223372036854775807 then (letterboxlaw03_QpLines.l0 k3 l0 l1 (y306 ++ [10]) ((x7_3 ++ (⟨#[13]⟩ : ByteArray)) ++ (⟨#[10]⟩ : ByteArray)) (wrap64 (x8_2 + 1))) else (none)) else (none)) else (none))) else (none)) else (if y302.length < 140737488355328 then (if x7_3.size + 1 ≤ 9223372036854775807 then (letterboxlaw03_QpLines.l0 k3 l0 l1 (y302 ++ [10]) (x7_3 ++ (⟨#[10]⟩ : ByteArray)) (wrap64 (x8_2 + 1))) else (none)) else (none))) = some r := by first | (rw [hy302]; with_reducible exact H) | (have H2_ := (Option.bind_some _ _).symm.trans H; rw [hy302]; with_reducible exact H2_) | (have H2_ := (Option.bind_some _ _).symm.trans H; with_reducible exact H2_) | with_reducible exact H | (rw [hy302]; exact H) | exact H
                                    have Ny302 := Aside0.mk hy302
                                    clear hy302
                                    by_cases c36 : (Go.bits .and .u8 (rd l1 x8_2) 2) = 2
                                    · rw [if_pos c36] at H
                                      have c36b0 : ((Go.bits .and .u8 (rd l1 x8_2) 2) == 2) = true := beq_iff_eq.mpr c36
                                      have c36b1 : ((Go.bits .and .u8 (rd l1 x8_2) 2) != 2) = false := bne_eq_false_iff_eq.mpr c36
                                      clear c36
                                      by_cases c37 : y302.length < 140737488355328
                                      · rw [if_pos c37] at H
                                        have LMc37 := Aside0.mk c37
                                        clear c37
                                        obtain ⟨y306, hy306⟩ : ∃ y_ : List Int, y_ = (y302 ++ [13]) := ⟨_, rfl⟩
                                        replace H : (if x7_3.size + 1 ≤ 9223372036854775807 then (if y306.length < 140737488355328 then (if (x7_3 ++ (⟨#[13]⟩ : ByteArray)).size + 1 ≤ 9223372036854775807 then (letterboxlaw03_QpLines.l0 k3 l0 l1 (y306 ++ [10]) ((x7_3 ++ (⟨#[13]⟩ : ByteArray)) ++ (⟨#[10]⟩ : ByteArray)) (wrap64 (x8_2 + 1))) else (none)) else (none)) else (none)) = some r := by first | (rw [hy306]; with_reducible exact H) | (have H2_ := (Option.bind_some _ _).symm.trans H; rw [hy306]; with_reducible exact H2_) | (have H2_ := (Option.bind_some _ _).symm.trans H; with_reducible exact H2_) | with_reducible exact H | (rw [hy306]; exact H) | exact H
                                        have Ny306 := Aside0.mk hy306
                                        clear hy306
                                        by_cases c38 : x7_3.size + 1 ≤ 9223372036854775807
                                        · rw [if_pos c38] at H
                                          have c38b0 := eq_true c38
                                          have c38b1 : decide (x7_3.size + 1 ≤ 9223372036854775807) = true := decide_eq_true c38
                                          try have c38b2 : (9223372036854775807 < x7_3.size + 1) = False := eq_false (Nat.not_lt.2 c38)
                                          by_cases c39 : y306.length < 140737488355328
                                          · rw [if_pos c39] at H
                                            have LMc39 := Aside0.mk c39
                                            clear c39
                                            obtain ⟨y309, hy309⟩ : ∃ y_ : List Int, y_ = (y306 ++ [10]) := ⟨_, rfl⟩
                                            replace H : (if (x7_3 ++ (⟨#[13]⟩ : ByteArray)).size + 1 ≤ 9223372036854775807 then (letterboxlaw03_QpLines.l0 k3 l0 l1 y309 ((x7_3 ++ (⟨#[13]⟩ : ByteArray)) ++ (⟨#[10]⟩ : ByteArray)) (wrap64 (x8_2 + 1))) else (none)) = some r := by first | (rw [hy309]; with_reducible exact H) | (have H2_ := (Option.bind_some _ _).symm.trans H; rw [hy309]; with_reducible exact H2_) | (have H2_ := (Option.bind_some _ _).symm.trans H; with_reducible exact H2_) | with_reducible exact H | (rw [hy309]; exact H) | exact H
                                            have Ny309 := Aside0.mk hy309
                                            clear hy309
                                            by_cases c40 : (x7_3 ++ (⟨#[13]⟩ : ByteArray)).size + 1 ≤ 9223372036854775807
                                            · rw [if_pos c40] at H
                                              have c40b0 := eq_true c40
                                              have c40b1 : decide ((x7_3 ++ (⟨#[13]⟩ : ByteArray)).size + 1 ≤ 9223372036854775807) = true := decide_eq_true c40
                                              try have c40b2 : (9223372036854775807 < (x7_3 ++ (⟨#[13]⟩ : ByteArray)).size + 1) = False := eq_false (Nat.not_lt.2 c40)
                                              try have c40b4 : (9223372036854775807 < x7_3.size + 1 + 1) = False := eq_false (Nat.not_lt.2 (by have h_ := c40; simp only [ByteArray.size_append] at h_; exact h_))
                                              have H' := Aside0.mk H
                                              clear H
                                              have p283 : 0 ≤ (x8_2 : Int) := of_decide_eq_true (by first | (with_reducible assumption) | assumption)
                                              have q283 : x8_2 < (l0.length : Int) := of_decide_eq_true (by first | (with_reducible assumption) | assumption)
                                              obtain ⟨ad283, A283_0, c283_0, e283, hx283_0, hl283_0, hi283_0⟩ := at_L1 HR0.out x8_2 p283 q283
                                              obtain rfl : ad282 = ad283 := (by injection e283)
                                              replace hx283_0 := (HB.out.cell (World.block_lt_of_cell? w _ hx283_0)).trans hx283_0
                                              have HR283_0 := Aside0.mk hi283_0
                                              have HC283_0 := Aside0.mk hl283_0
                                              clear hi283_0 hl283_0
                                              replace p283 := eq_true p283
                                              replace q283 := eq_true q283
                                              have p298 : 0 ≤ (x8_2 : Int) := of_decide_eq_true (by first | (with_reducible assumption) | assumption)
                                              have q298 : x8_2 < (l1.length : Int) := of_decide_eq_true (by first | (with_reducible assumption) | assumption)
                                              obtain ⟨ad298, e298, hx298_0⟩ := Kd.at_int HR1.out x8_2 p298 q298
                                              cases e298
                                              replace hx298_0 := (HB.out.cell (World.block_lt_of_cell? w _ hx298_0)).trans hx298_0
                                              replace p298 := eq_true p298
                                              replace q298 := eq_true q298
                                              go_wp2_with (first | ((with_reducible refine gate_dst (N := 74) rfl ?_); (try (refine gate_guard (by rfl) ?_; dsimp only)); refine Kd.R_lit (Kd.int .u8) _ 5 ?hg (N := 74) ?hd (xs := ([32, 9] : List Int)) (inner := [.int .u8 32, .int .u8 9]) (ok := fun _ => True) (okp := fun _ => True) ?hr ?hp (fun _ hk => hk) trivial (Below.refl _ _) (Nat.le_refl _) (by simp) ?_; (case hd => rfl); (case hg => rfl); (case hr => first | (go_simp; done) | (go_simp; rfl)); (case hp => exact (Reps.one (show Kd.M (Kd.int .u8) _ _ _ 32 [.int .u8 32] from rfl) (Reps.one (show Kd.M (Kd.int .u8) _ _ _ 9 [.int .u8 9] from rfl) (Reps.none _ _)))); intro v300 w41 ho42 hb hg_ hnew_; clear hg_ hnew_; (first | rw [← Ny299.out] at ho42 | (simp only [Int.reduceToNat] at ho42; rw [← Ny299.out] at ho42)); have n0_ := Aside0.mk (Kd.R_elder' (by (with_reducible repeat (first | apply Kd.R_alloc | apply Kd.R_drewN | apply Kd.R_drew)); exact HO_6.out) (Kd.R_base ho42) hb); have n1_ := Aside0.mk (Kd.R_lower (Kd.R_new' ho42 (Kd.R_lt (by (with_reducible repeat (first | apply Kd.R_alloc | apply Kd.R_drewN | apply Kd.R_drew)); exact HO_6.out))) (below_size (by repeat (first | (with_reducible first | exact HB.out | apply below_alloc | apply pw_below_drewN | apply below_drew1) | exact HB.out)))); have n2_ := Aside0.mk (below_step (by repeat (first | (with_reducible first | exact HB.out | apply below_alloc | apply pw_below_drewN | apply below_drew1) | exact HB.out)) hb); clear HO_6; clear HB; have HO_6 := n0_; have HO301 := n1_; have HB := n2_; clear n0_ n1_ n2_; clear hb ho42; obtain ⟨Ao44, co44, eo44⟩ := Kd.R_slice HO301.out; subst eo44) | ((with_reducible refine gate_builtin (b := .append) (xs := #[.tmp 73, .tmp 74]) rfl ?_); (try (refine gate_guard (by rfl) ?_; dsimp only)); at_builtin; refine Kd.R_append_rows (Kd.int .u8) (w0 := w) w.heap.size rfl (.tmp 73) (.tmp 74) 22 5 (.int .u8 0) 1 rfl Try.underlying22 info5 rfl (by decide) (by omega) u6 x6_3 y299 _ _ _ (fun k_ => some k_ ≠ (.slice Ao44 y299.length co44 : Value).ownBlock) (fun _ => False) rfl rfl ?aO ?aR (fun _ _ h => h) (fun _ h => h.elim) ?aF ?aB ?aS ?aL ?_; (case aR => repeat (first | exact (Kd.R_reads' HO301.out).2.2 | (with_reducible refine Kd.C_alloc ?_ _) | (with_reducible refine Kd.C_drewN ?_ _) | (with_reducible refine Kd.C_drew ?_))); (case aB => exact (by repeat (first | (with_reducible first | exact HB.out | apply below_alloc | apply pw_below_drewN | apply below_drew1) | exact HB.out))); (case aF => exact (fun k_ hk => Kd.fresh' (Kd.R_lt (by (with_reducible repeat (first | apply Kd.R_alloc | apply Kd.R_drewN | apply Kd.R_drew)); exact HO301.out)) k_ hk)); (case aO => exact (by (with_reducible repeat (first | apply Kd.R_alloc | apply Kd.R_drewN | apply Kd.R_drew)); exact Kd.R_mono HO_6.out (fun _ hk => hk.2))); (case aS => exact (below_size (by repeat (first | (with_reducible first | exact HB.out | apply below_alloc | apply pw_below_drewN | apply below_drew1) | exact HB.out)))); (case aL => have := LMc35.out; omega); intro v303 w43 ho hb hg hat; rw [← Ny302.out] at ho; have n0_ := Aside0.mk (Kd.R_after (ok := (fun _ => True)) (by (with_reducible repeat (first | apply Kd.R_alloc | apply Kd.R_drewN | apply Kd.R_drew)); exact HO301.out) hg hat); have n1_ := Aside0.mk (hb); have n2_ := Aside0.mk (ho); clear HO301; clear HB; clear HO_6; have HO301 := n0_; have HB := n1_; have HO304 := n2_; clear n0_ n1_ n2_; clear ho hb hg hat; have p305 : 0 ≤ (x8_2 : Int) := of_decide_eq_true (by first | (with_reducible assumption) | assumption); have q305 : x8_2 < (l1.length : Int) := of_decide_eq_true (by first | (with_reducible assumption) | assumption); obtain ⟨ad305, e305, hx305_0⟩ := Kd.at_int HR1.out x8_2 p305 q305; obtain rfl : ad298 = ad305 := (by injection e305); replace hx305_0 := (HB.out.cell (World.block_lt_of_cell? w _ hx305_0)).trans hx305_0; replace p305 := eq_true p305; replace q305 := eq_true q305) | ((with_reducible refine gate_builtin (b := .append) (xs := #[.tmp 82, .tmp 83]) rfl ?_); (try (refine gate_guard (by rfl) ?_; dsimp only)); at_builtin; refine Kd.R_append (Kd.int .u8) (w0 := w) w.heap.size rfl (.tmp 82) (.tmp 83) 22 5 (.int .u8 0) 1 rfl Try.underlying22 info5 rfl (by decide) (by omega) v303 y302 13 [.int .u8 13] (fun k_ => some k_ ≠ (.slice Ao44 y299.length co44 : Value).ownBlock) (fun _ => False) rfl rfl ?aP (fun _ hk => hk.elim) ?aF ?aO ?aB ?aS ?aL ?_; (case aP => exact rfl); (case aB => exact (by repeat (first | (with_reducible first | exact HB.out | apply below_alloc | apply pw_below_drewN | apply below_drew1) | exact HB.out))); (case aF => exact (fun k_ hk => Kd.fresh' (Kd.R_lt (by (with_reducible repeat (first | apply Kd.R_alloc | apply Kd.R_drewN | apply Kd.R_drew)); exact HO301.out)) k_ hk)); (case aO => exact (by (with_reducible repeat (first | apply Kd.R_alloc | apply Kd.R_drewN | apply Kd.R_drew)); exact HO304.out)); (case aS => exact (below_size (by repeat (first | (with_reducible first | exact HB.out | apply below_alloc | apply pw_below_drewN | apply below_drew1) | exact HB.out)))); (case aL => have := LMc37.out; omega); intro v307 w45 ho hb hg hat; rw [← Ny306.out] at ho; have n0_ := Aside0.mk (Kd.R_after (ok := (fun _ => True)) (by (with_reducible repeat (first | apply Kd.R_alloc | apply Kd.R_drewN | apply Kd.R_drew)); exact HO301.out) hg hat); have n1_ := Aside0.mk (hb); have n2_ := Aside0.mk (ho); clear HO301; clear HB; clear HO304; have HO301 := n0_; have HB := n1_; have HO308 := n2_; clear n0_ n1_ n2_; clear ho hb hg hat) | ((with_reducible refine gate_builtin (b := .append) (xs := #[.tmp 87, .tmp 88]) rfl ?_); (try (refine gate_guard (by rfl) ?_; dsimp only)); at_builtin; refine Kd.R_append (Kd.int .u8) (w0 := w) w.heap.size rfl (.tmp 87) (.tmp 88) 22 5 (.int .u8 0) 1 rfl Try.underlying22 info5 rfl (by decide) (by omega) v307 y306 10 [.int .u8 10] (fun k_ => some k_ ≠ (.slice Ao44 y299.length co44 : Value).ownBlock) (fun _ => False) rfl rfl ?aP (fun _ hk => hk.elim) ?aF ?aO ?aB ?aS ?aL ?_; (case aP => exact rfl); (case aB => exact (by repeat (first | (with_reducible first | exact HB.out | apply below_alloc | apply pw_below_drewN | apply below_drew1) | exact HB.out))); (case aF => exact (fun k_ hk => Kd.fresh' (Kd.R_lt (by (with_reducible repeat (first | apply Kd.R_alloc | apply Kd.R_drewN | apply Kd.R_drew)); exact HO301.out)) k_ hk)); (case aO => exact (by (with_reducible repeat (first | apply Kd.R_alloc | apply Kd.R_drewN | apply Kd.R_drew)); exact HO308.out)); (case aS => exact (below_size (by repeat (first | (with_reducible first | exact HB.out | apply below_alloc | apply pw_below_drewN | apply below_drew1) | exact HB.out)))); (case aL => have := LMc39.out; omega); intro v310 w46 ho hb hg hat; rw [← Ny309.out] at ho; have n0_ := Aside0.mk (Kd.R_after (ok := (fun _ => True)) (by (with_reducible repeat (first | apply Kd.R_alloc | apply Kd.R_drewN | apply Kd.R_drew)); exact HO301.out) hg hat); have n1_ := Aside0.mk (hb); have n2_ := Aside0.mk (ho); clear HO301; clear HB; clear HO308; have HO301 := n0_; have HB := n1_; have HO311 := n2_; clear n0_ n1_ n2_; clear ho hb hg hat))
                                              go_roundg k3
                                              case measure => have := HJ4.out; have := HK2.out; have := HK3.out; omega
                                              case rel => exact ⟨(y309), ((x7_3 ++ (⟨#[13]⟩ : ByteArray)) ++ (⟨#[10]⟩ : ByteArray)), (wrap64 (x8_2 + 1)), (by first | rfl | (simp; done) | (simp [*]; done)), (by first | rfl | (simp; done) | (simp [*]; done)), H', ⟨by have := HJ4.out; have := HK2.out; have := HK3.out; omega⟩, ⟨by (with_reducible repeat (first | apply Kd.R_alloc | apply Kd.R_drewN | apply Kd.R_drew)); exact Kd.R_mono HO311.out (fun _ hk => trivial)⟩, ⟨by repeat (first | (with_reducible first | exact HB.out | apply below_alloc | apply pw_below_drewN | apply below_drew1) | exact HB.out)⟩⟩
                                            · rw [if_neg c40] at H
                                              exact absurd H (by simp)
                                          · rw [if_neg c39] at H
                                            exact absurd H (by simp)
                                        · rw [if_neg c38] at H
                                          exact absurd H (by simp)
                                      · rw [if_neg c37] at H
                                        exact absurd H (by simp)
                                    · rw [if_neg c36] at H
                                      have c36b0 : ((Go.bits .and .u8 (rd l1 x8_2) 2) == 2) = false := beq_eq_false_iff_ne.mpr c36
                                      have c36b1 : ((Go.bits .and .u8 (rd l1 x8_2) 2) != 2) = true := bne_iff_ne.mpr c36
                                      by_cases c47 : y302.length < 140737488355328
                                      · rw [if_pos c47] at H
                                        have LMc47 := Aside0.mk c47
                                        clear c47
                                        obtain ⟨y312, hy312⟩ : ∃ y_ : List Int, y_ = (y302 ++ [10]) := ⟨_, rfl⟩
                                        replace H : (if x7_3.size + 1 ≤ 9223372036854775807 then (letterboxlaw03_QpLines.l0 k3 l0 l1 y312 (x7_3 ++ (⟨#[10]⟩ : ByteArray)) (wrap64 (x8_2 + 1))) else (none)) = some r := by first | (rw [hy312]; with_reducible exact H) | (have H2_ := (Option.bind_some _ _).symm.trans H; rw [hy312]; with_reducible exact H2_) | (have H2_ := (Option.bind_some _ _).symm.trans H; with_reducible exact H2_) | with_reducible exact H | (rw [hy312]; exact H) | exact H
                                        have Ny312 := Aside0.mk hy312
                                        clear hy312
                                        by_cases c48 : x7_3.size + 1 ≤ 9223372036854775807
                                        · rw [if_pos c48] at H
                                          have c48b0 := eq_true c48
                                          have c48b1 : decide (x7_3.size + 1 ≤ 9223372036854775807) = true := decide_eq_true c48
                                          try have c48b2 : (9223372036854775807 < x7_3.size + 1) = False := eq_false (Nat.not_lt.2 c48)
                                          have H' := Aside0.mk H
                                          clear H
                                          have p283 : 0 ≤ (x8_2 : Int) := of_decide_eq_true (by first | (with_reducible assumption) | assumption)
                                          have q283 : x8_2 < (l0.length : Int) := of_decide_eq_true (by first | (with_reducible assumption) | assumption)
                                          obtain ⟨ad283, A283_0, c283_0, e283, hx283_0, hl283_0, hi283_0⟩ := at_L1 HR0.out x8_2 p283 q283
                                          obtain rfl : ad282 = ad283 := (by injection e283)
                                          replace hx283_0 := (HB.out.cell (World.block_lt_of_cell? w _ hx283_0)).trans hx283_0
                                          have HR283_0 := Aside0.mk hi283_0
                                          have HC283_0 := Aside0.mk hl283_0
                                          clear hi283_0 hl283_0
                                          replace p283 := eq_true p283
                                          replace q283 := eq_true q283
                                          have p298 : 0 ≤ (x8_2 : Int) := of_decide_eq_true (by first | (with_reducible assumption) | assumption)
                                          have q298 : x8_2 < (l1.length : Int) := of_decide_eq_true (by first | (with_reducible assumption) | assumption)
                                          obtain ⟨ad298, e298, hx298_0⟩ := Kd.at_int HR1.out x8_2 p298 q298
                                          cases e298
                                          replace hx298_0 := (HB.out.cell (World.block_lt_of_cell? w _ hx298_0)).trans hx298_0
                                          replace p298 := eq_true p298
                                          replace q298 := eq_true q298
                                          go_wp2_with (first | ((with_reducible refine gate_dst (N := 74) rfl ?_); (try (refine gate_guard (by rfl) ?_; dsimp only)); refine Kd.R_lit (Kd.int .u8) _ 5 ?hg (N := 74) ?hd (xs := ([32, 9] : List Int)) (inner := [.int .u8 32, .int .u8 9]) (ok := fun _ => True) (okp := fun _ => True) ?hr ?hp (fun _ hk => hk) trivial (Below.refl _ _) (Nat.le_refl _) (by simp) ?_; (case hd => rfl); (case hg => rfl); (case hr => first | (go_simp; done) | (go_simp; rfl)); (case hp => exact (Reps.one (show Kd.M (Kd.int .u8) _ _ _ 32 [.int .u8 32] from rfl) (Reps.one (show Kd.M (Kd.int .u8) _ _ _ 9 [.int .u8 9] from rfl) (Reps.none _ _)))); intro v300 w49 ho50 hb hg_ hnew_; clear hg_ hnew_; (first | rw [← Ny299.out] at ho50 | (simp only [Int.reduceToNat] at ho50; rw [← Ny299.out] at ho50)); have n0_ := Aside0.mk (Kd.R_elder' (by (with_reducible repeat (first | apply Kd.R_alloc | apply Kd.R_drewN | apply Kd.R_drew)); exact HO_6.out) (Kd.R_base ho50) hb); have n1_ := Aside0.mk (Kd.R_lower (Kd.R_new' ho50 (Kd.R_lt (by (with_reducible repeat (first | apply Kd.R_alloc | apply Kd.R_drewN | apply Kd.R_drew)); exact HO_6.out))) (below_size (by repeat (first | (with_reducible first | exact HB.out | apply below_alloc | apply pw_below_drewN | apply below_drew1) | exact HB.out)))); have n2_ := Aside0.mk (below_step (by repeat (first | (with_reducible first | exact HB.out | apply below_alloc | apply pw_below_drewN | apply below_drew1) | exact HB.out)) hb); clear HO_6; clear HB; have HO_6 := n0_; have HO301 := n1_; have HB := n2_; clear n0_ n1_ n2_; clear hb ho50; obtain ⟨Ao52, co52, eo52⟩ := Kd.R_slice HO301.out; subst eo52) | ((with_reducible refine gate_builtin (b := .append) (xs := #[.tmp 73, .tmp 74]) rfl ?_); (try (refine gate_guard (by rfl) ?_; dsimp only)); at_builtin; refine Kd.R_append_rows (Kd.int .u8) (w0 := w) w.heap.size rfl (.tmp 73) (.tmp 74) 22 5 (.int .u8 0) 1 rfl Try.underlying22 info5 rfl (by decide) (by omega) u6 x6_3 y299 _ _ _ (fun k_ => some k_ ≠ (.slice Ao52 y299.length co52 : Value).ownBlock) (fun _ => False) rfl rfl ?aO ?aR (fun _ _ h => h) (fun _ h => h.elim) ?aF ?aB ?aS ?aL ?_; (case aR => repeat (first | exact (Kd.R_reads' HO301.out).2.2 | (with_reducible refine Kd.C_alloc ?_ _) | (with_reducible refine Kd.C_drewN ?_ _) | (with_reducible refine Kd.C_drew ?_))); (case aB => exact (by repeat (first | (with_reducible first | exact HB.out | apply below_alloc | apply pw_below_drewN | apply below_drew1) | exact HB.out))); (case aF => exact (fun k_ hk => Kd.fresh' (Kd.R_lt (by (with_reducible repeat (first | apply Kd.R_alloc | apply Kd.R_drewN | apply Kd.R_drew)); exact HO301.out)) k_ hk)); (case aO => exact (by (with_reducible repeat (first | apply Kd.R_alloc | apply Kd.R_drewN | apply Kd.R_drew)); exact Kd.R_mono HO_6.out (fun _ hk => hk.2))); (case aS => exact (below_size (by repeat (first | (with_reducible first | exact HB.out | apply below_alloc | apply pw_below_drewN | apply below_drew1) | exact HB.out)))); (case aL => have := LMc35.out; omega); intro v303 w51 ho hb hg hat; rw [← Ny302.out] at ho; have n0_ := Aside0.mk (Kd.R_after (ok := (fun _ => True)) (by (with_reducible repeat (first | apply Kd.R_alloc | apply Kd.R_drewN | apply Kd.R_drew)); exact HO301.out) hg hat); have n1_ := Aside0.mk (hb); have n2_ := Aside0.mk (ho); clear HO301; clear HB; clear HO_6; have HO301 := n0_; have HB := n1_; have HO304 := n2_; clear n0_ n1_ n2_; clear ho hb hg hat; have p305 : 0 ≤ (x8_2 : Int) := of_decide_eq_true (by first | (with_reducible assumption) | assumption); have q305 : x8_2 < (l1.length : Int) := of_decide_eq_true (by first | (with_reducible assumption) | assumption); obtain ⟨ad305, e305, hx305_0⟩ := Kd.at_int HR1.out x8_2 p305 q305; obtain rfl : ad298 = ad305 := (by injection e305); replace hx305_0 := (HB.out.cell (World.block_lt_of_cell? w _ hx305_0)).trans hx305_0; replace p305 := eq_true p305; replace q305 := eq_true q305) | ((with_reducible refine gate_builtin (b := .append) (xs := #[.tmp 87, .tmp 88]) rfl ?_); (try (refine gate_guard (by rfl) ?_; dsimp only)); at_builtin; refine Kd.R_append (Kd.int .u8) (w0 := w) w.heap.size rfl (.tmp 87) (.tmp 88) 22 5 (.int .u8 0) 1 rfl Try.underlying22 info5 rfl (by decide) (by omega) v303 y302 10 [.int .u8 10] (fun k_ => some k_ ≠ (.slice Ao52 y299.length co52 : Value).ownBlock) (fun _ => False) rfl rfl ?aP (fun _ hk => hk.elim) ?aF ?aO ?aB ?aS ?aL ?_; (case aP => exact rfl); (case aB => exact (by repeat (first | (with_reducible first | exact HB.out | apply below_alloc | apply pw_below_drewN | apply below_drew1) | exact HB.out))); (case aF => exact (fun k_ hk => Kd.fresh' (Kd.R_lt (by (with_reducible repeat (first | apply Kd.R_alloc | apply Kd.R_drewN | apply Kd.R_drew)); exact HO301.out)) k_ hk)); (case aO => exact (by (with_reducible repeat (first | apply Kd.R_alloc | apply Kd.R_drewN | apply Kd.R_drew)); exact HO304.out)); (case aS => exact (below_size (by repeat (first | (with_reducible first | exact HB.out | apply below_alloc | apply pw_below_drewN | apply below_drew1) | exact HB.out)))); (case aL => have := LMc47.out; omega); intro v313 w53 ho hb hg hat; rw [← Ny312.out] at ho; have n0_ := Aside0.mk (Kd.R_after (ok := (fun _ => True)) (by (with_reducible repeat (first | apply Kd.R_alloc | apply Kd.R_drewN | apply Kd.R_drew)); exact HO301.out) hg hat); have n1_ := Aside0.mk (hb); have n2_ := Aside0.mk (ho); clear HO301; clear HB; clear HO304; have HO301 := n0_; have HB := n1_; have HO314 := n2_; clear n0_ n1_ n2_; clear ho hb hg hat))
                                          go_roundg k3
                                          case measure => have := HJ4.out; have := HK2.out; have := HK3.out; omega
                                          case rel => exact ⟨(y312), (x7_3 ++ (⟨#[10]⟩ : ByteArray)), (wrap64 (x8_2 + 1)), (by first | rfl | (simp; done) | (simp [*]; done)), (by first | rfl | (simp; done) | (simp [*]; done)), H', ⟨by have := HJ4.out; have := HK2.out; have := HK3.out; omega⟩, ⟨by (with_reducible repeat (first | apply Kd.R_alloc | apply Kd.R_drewN | apply Kd.R_drew)); exact Kd.R_mono HO314.out (fun _ hk => trivial)⟩, ⟨by repeat (first | (with_reducible first | exact HB.out | apply below_alloc | apply pw_below_drewN | apply below_drew1) | exact HB.out)⟩⟩
                                        · rw [if_neg c48] at H
                                          exact absurd H (by simp)
                                      · rw [if_neg c47] at H
                                        exact absurd H (by simp)
                                  · rw [if_neg c35] at H
                                    exact absurd H (by simp)
                                · rw [if_neg c34] at H
                                  have c34b0 : ((Go.bits .and .u8 (rd l1 x8_2) 1) == 1) = false := beq_eq_false_iff_ne.mpr c34
                                  have c34b1 : ((Go.bits .and .u8 (rd l1 x8_2) 1) != 1) = true := bne_iff_ne.mpr c34
                                  by_cases c54 : (Go.bits .and .u8 (rd l1 x8_2) 2) = 2
                                  · rw [if_pos c54] at H
                                    have c54b0 : ((Go.bits .and .u8 (rd l1 x8_2) 2) == 2) = true := beq_iff_eq.mpr c54
                                    have c54b1 : ((Go.bits .and .u8 (rd l1 x8_2) 2) != 2) = false := bne_eq_false_iff_eq.mpr c54
                                    clear c54
                                    by_cases c55 : x6_3.length < 140737488355328
                                    · rw [if_pos c55] at H
                                      have LMc55 := Aside0.mk c55
                                      clear c55
                                      obtain ⟨y316, hy316⟩ : ∃ y_ : List Int, y_ = (x6_3 ++ [13]) := ⟨_, rfl⟩
                                      replace H : (if x7_3.size + 1 ≤ 9223372036854775807 then (if y316.length < 140737488355328 then (if (x7_3 ++ (⟨#[13]⟩ : ByteArray)).size + 1 ≤ 9223372036854775807 then (letterboxlaw03_QpLines.l0 k3 l0 l1 (y316 ++ [10]) ((x7_3 ++ (⟨#[13]⟩ : ByteArray)) ++ (⟨#[10]⟩ : ByteArray)) (wrap64 (x8_2 + 1))) else (none)) else (none)) else (none)) = some r := by first | (rw [hy316]; with_reducible exact H) | (have H2_ := (Option.bind_some _ _).symm.trans H; rw [hy316]; with_reducible exact H2_) | (have H2_ := (Option.bind_some _ _).symm.trans H; with_reducible exact H2_) | with_reducible exact H | (rw [hy316]; exact H) | exact H
                                      have Ny316 := Aside0.mk hy316
                                      clear hy316
                                      by_cases c56 : x7_3.size + 1 ≤ 9223372036854775807
                                      · rw [if_pos c56] at H
                                        have c56b0 := eq_true c56
                                        have c56b1 : decide (x7_3.size + 1 ≤ 9223372036854775807) = true := decide_eq_true c56
                                        try have c56b2 : (9223372036854775807 < x7_3.size + 1) = False := eq_false (Nat.not_lt.2 c56)
                                        by_cases c57 : y316.length < 140737488355328
                                        · rw [if_pos c57] at H
                                          have LMc57 := Aside0.mk c57
                                          clear c57
                                          obtain ⟨y319, hy319⟩ : ∃ y_ : List Int, y_ = (y316 ++ [10]) := ⟨_, rfl⟩
                                          replace H : (if (x7_3 ++ (⟨#[13]⟩ : ByteArray)).size + 1 ≤ 9223372036854775807 then (letterboxlaw03_QpLines.l0 k3 l0 l1 y319 ((x7_3 ++ (⟨#[13]⟩ : ByteArray)) ++ (⟨#[10]⟩ : ByteArray)) (wrap64 (x8_2 + 1))) else (none)) = some r := by first | (rw [hy319]; with_reducible exact H) | (have H2_ := (Option.bind_some _ _).symm.trans H; rw [hy319]; with_reducible exact H2_) | (have H2_ := (Option.bind_some _ _).symm.trans H; with_reducible exact H2_) | with_reducible exact H | (rw [hy319]; exact H) | exact H
                                          have Ny319 := Aside0.mk hy319
                                          clear hy319
                                          by_cases c58 : (x7_3 ++ (⟨#[13]⟩ : ByteArray)).size + 1 ≤ 9223372036854775807
                                          · rw [if_pos c58] at H
                                            have c58b0 := eq_true c58
                                            have c58b1 : decide ((x7_3 ++ (⟨#[13]⟩ : ByteArray)).size + 1 ≤ 9223372036854775807) = true := decide_eq_true c58
                                            try have c58b2 : (9223372036854775807 < (x7_3 ++ (⟨#[13]⟩ : ByteArray)).size + 1) = False := eq_false (Nat.not_lt.2 c58)
                                            try have c58b4 : (9223372036854775807 < x7_3.size + 1 + 1) = False := eq_false (Nat.not_lt.2 (by have h_ := c58; simp only [ByteArray.size_append] at h_; exact h_))
                                            have H' := Aside0.mk H
                                            clear H
                                            have p283 : 0 ≤ (x8_2 : Int) := of_decide_eq_true (by first | (with_reducible assumption) | assumption)
                                            have q283 : x8_2 < (l0.length : Int) := of_decide_eq_true (by first | (with_reducible assumption) | assumption)
                                            obtain ⟨ad283, A283_0, c283_0, e283, hx283_0, hl283_0, hi283_0⟩ := at_L1 HR0.out x8_2 p283 q283
                                            obtain rfl : ad282 = ad283 := (by injection e283)
                                            replace hx283_0 := (HB.out.cell (World.block_lt_of_cell? w _ hx283_0)).trans hx283_0
                                            have HR283_0 := Aside0.mk hi283_0
                                            have HC283_0 := Aside0.mk hl283_0
                                            clear hi283_0 hl283_0
                                            replace p283 := eq_true p283
                                            replace q283 := eq_true q283
                                            have p298 : 0 ≤ (x8_2 : Int) := of_decide_eq_true (by first | (with_reducible assumption) | assumption)
                                            have q298 : x8_2 < (l1.length : Int) := of_decide_eq_true (by first | (with_reducible assumption) | assumption)
                                            obtain ⟨ad298, e298, hx298_0⟩ := Kd.at_int HR1.out x8_2 p298 q298
                                            cases e298
                                            replace hx298_0 := (HB.out.cell (World.block_lt_of_cell? w _ hx298_0)).trans hx298_0
                                            replace p298 := eq_true p298
                                            replace q298 := eq_true q298
                                            have p315 : 0 ≤ (x8_2 : Int) := of_decide_eq_true (by first | (with_reducible assumption) | assumption)
                                            have q315 : x8_2 < (l1.length : Int) := of_decide_eq_true (by first | (with_reducible assumption) | assumption)
                                            obtain ⟨ad315, e315, hx315_0⟩ := Kd.at_int HR1.out x8_2 p315 q315
                                            obtain rfl : ad298 = ad315 := (by injection e315)
                                            replace hx315_0 := (HB.out.cell (World.block_lt_of_cell? w _ hx315_0)).trans hx315_0
                                            replace p315 := eq_true p315
                                            replace q315 := eq_true q315
                                            go_wp2_with (first | ((with_reducible refine gate_builtin (b := .append) (xs := #[.tmp 82, .tmp 83]) rfl ?_); (try (refine gate_guard (by rfl) ?_; dsimp only)); at_builtin; refine Kd.R_append (Kd.int .u8) (w0 := w) w.heap.size rfl (.tmp 82) (.tmp 83) 22 5 (.int .u8 0) 1 rfl Try.underlying22 info5 rfl (by decide) (by omega) u6 x6_3 13 [.int .u8 13] (fun _ => True) (fun _ => False) rfl rfl ?aP (fun _ hk => hk.elim) ?aF ?aO ?aB ?aS ?aL ?_; (case aP => exact rfl); (case aB => exact (by repeat (first | (with_reducible first | exact HB.out | apply below_alloc | apply pw_below_drewN | apply below_drew1) | exact HB.out))); (case aF => exact (fun _ _ => trivial)); (case aO => exact (by (with_reducible repeat (first | apply Kd.R_alloc | apply Kd.R_drewN | apply Kd.R_drew)); exact HO_6.out)); (case aS => exact (below_size (by repeat (first | (with_reducible first | exact HB.out | apply below_alloc | apply pw_below_drewN | apply below_drew1) | exact HB.out)))); (case aL => have := LMc55.out; omega); intro v317 w59 ho hb hg hat; rw [← Ny316.out] at ho; have n0_ := Aside0.mk (hb); have n1_ := Aside0.mk (ho); clear HB; clear HO_6; have HB := n0_; have HO318 := n1_; clear n0_ n1_; clear ho hb hg hat) | ((with_reducible refine gate_builtin (b := .append) (xs := #[.tmp 87, .tmp 88]) rfl ?_); (try (refine gate_guard (by rfl) ?_; dsimp only)); at_builtin; refine Kd.R_append (Kd.int .u8) (w0 := w) w.heap.size rfl (.tmp 87) (.tmp 88) 22 5 (.int .u8 0) 1 rfl Try.underlying22 info5 rfl (by decide) (by omega) v317 y316 10 [.int .u8 10] (fun _ => True) (fun _ => False) rfl rfl ?aP (fun _ hk => hk.elim) ?aF ?aO ?aB ?aS ?aL ?_; (case aP => exact rfl); (case aB => exact (by repeat (first | (with_reducible first | exact HB.out | apply below_alloc | apply pw_below_drewN | apply below_drew1) | exact HB.out))); (case aF => exact (fun _ _ => trivial)); (case aO => exact (by (with_reducible repeat (first | apply Kd.R_alloc | apply Kd.R_drewN | apply Kd.R_drew)); exact HO318.out)); (case aS => exact (below_size (by repeat (first | (with_reducible first | exact HB.out | apply below_alloc | apply pw_below_drewN | apply below_drew1) | exact HB.out)))); (case aL => have := LMc57.out; omega); intro v320 w60 ho hb hg hat; rw [← Ny319.out] at ho; have n0_ := Aside0.mk (hb); have n1_ := Aside0.mk (ho); clear HB; clear HO318; have HB := n0_; have HO321 := n1_; clear n0_ n1_; clear ho hb hg hat))
                                            go_roundg k3
                                            case measure => have := HJ4.out; have := HK2.out; have := HK3.out; omega
                                            case rel => exact ⟨(y319), ((x7_3 ++ (⟨#[13]⟩ : ByteArray)) ++ (⟨#[10]⟩ : ByteArray)), (wrap64 (x8_2 + 1)), (by first | rfl | (simp; done) | (simp [*]; done)), (by first | rfl | (simp; done) | (simp [*]; done)), H', ⟨by have := HJ4.out; have := HK2.out; have := HK3.out; omega⟩, ⟨by (with_reducible repeat (first | apply Kd.R_alloc | apply Kd.R_drewN | apply Kd.R_drew)); exact HO321.out⟩, ⟨by repeat (first | (with_reducible first | exact HB.out | apply below_alloc | apply pw_below_drewN | apply below_drew1) | exact HB.out)⟩⟩
                                          · rw [if_neg c58] at H
                                            exact absurd H (by simp)
                                        · rw [if_neg c57] at H
                                          exact absurd H (by simp)
                                      · rw [if_neg c56] at H
                                        exact absurd H (by simp)
                                    · rw [if_neg c55] at H
                                      exact absurd H (by simp)
                                  · rw [if_neg c54] at H
                                    have c54b0 : ((Go.bits .and .u8 (rd l1 x8_2) 2) == 2) = false := beq_eq_false_iff_ne.mpr c54
                                    have c54b1 : ((Go.bits .and .u8 (rd l1 x8_2) 2) != 2) = true := bne_iff_ne.mpr c54
                                    by_cases c61 : x6_3.length < 140737488355328
                                    · rw [if_pos c61] at H
                                      have LMc61 := Aside0.mk c61
                                      clear c61
                                      obtain ⟨y322, hy322⟩ : ∃ y_ : List Int, y_ = (x6_3 ++ [10]) := ⟨_, rfl⟩
                                      replace H : (if x7_3.size + 1 ≤ 9223372036854775807 then (letterboxlaw03_QpLines.l0 k3 l0 l1 y322 (x7_3 ++ (⟨#[10]⟩ : ByteArray)) (wrap64 (x8_2 + 1))) else (none)) = some r := by first | (rw [hy322]; with_reducible exact H) | (have H2_ := (Option.bind_some _ _).symm.trans H; rw [hy322]; with_reducible exact H2_) | (have H2_ := (Option.bind_some _ _).symm.trans H; with_reducible exact H2_) | with_reducible exact H | (rw [hy322]; exact H) | exact H
                                      have Ny322 := Aside0.mk hy322
                                      clear hy322
                                      by_cases c62 : x7_3.size + 1 ≤ 9223372036854775807
                                      · rw [if_pos c62] at H
                                        have c62b0 := eq_true c62
                                        have c62b1 : decide (x7_3.size + 1 ≤ 9223372036854775807) = true := decide_eq_true c62
                                        try have c62b2 : (9223372036854775807 < x7_3.size + 1) = False := eq_false (Nat.not_lt.2 c62)
                                        have H' := Aside0.mk H
                                        clear H
                                        have p283 : 0 ≤ (x8_2 : Int) := of_decide_eq_true (by first | (with_reducible assumption) | assumption)
                                        have q283 : x8_2 < (l0.length : Int) := of_decide_eq_true (by first | (with_reducible assumption) | assumption)
                                        obtain ⟨ad283, A283_0, c283_0, e283, hx283_0, hl283_0, hi283_0⟩ := at_L1 HR0.out x8_2 p283 q283
                                        obtain rfl : ad282 = ad283 := (by injection e283)
                                        replace hx283_0 := (HB.out.cell (World.block_lt_of_cell? w _ hx283_0)).trans hx283_0
                                        have HR283_0 := Aside0.mk hi283_0
                                        have HC283_0 := Aside0.mk hl283_0
                                        clear hi283_0 hl283_0
                                        replace p283 := eq_true p283
                                        replace q283 := eq_true q283
                                        have p298 : 0 ≤ (x8_2 : Int) := of_decide_eq_true (by first | (with_reducible assumption) | assumption)
                                        have q298 : x8_2 < (l1.length : Int) := of_decide_eq_true (by first | (with_reducible assumption) | assumption)
                                        obtain ⟨ad298, e298, hx298_0⟩ := Kd.at_int HR1.out x8_2 p298 q298
                                        cases e298
                                        replace hx298_0 := (HB.out.cell (World.block_lt_of_cell? w _ hx298_0)).trans hx298_0
                                        replace p298 := eq_true p298
                                        replace q298 := eq_true q298
                                        have p315 : 0 ≤ (x8_2 : Int) := of_decide_eq_true (by first | (with_reducible assumption) | assumption)
                                        have q315 : x8_2 < (l1.length : Int) := of_decide_eq_true (by first | (with_reducible assumption) | assumption)
                                        obtain ⟨ad315, e315, hx315_0⟩ := Kd.at_int HR1.out x8_2 p315 q315
                                        obtain rfl : ad298 = ad315 := (by injection e315)
                                        replace hx315_0 := (HB.out.cell (World.block_lt_of_cell? w _ hx315_0)).trans hx315_0
                                        replace p315 := eq_true p315
                                        replace q315 := eq_true q315
                                        go_wp2_with (first | ((with_reducible refine gate_builtin (b := .append) (xs := #[.tmp 87, .tmp 88]) rfl ?_); (try (refine gate_guard (by rfl) ?_; dsimp only)); at_builtin; refine Kd.R_append (Kd.int .u8) (w0 := w) w.heap.size rfl (.tmp 87) (.tmp 88) 22 5 (.int .u8 0) 1 rfl Try.underlying22 info5 rfl (by decide) (by omega) u6 x6_3 10 [.int .u8 10] (fun _ => True) (fun _ => False) rfl rfl ?aP (fun _ hk => hk.elim) ?aF ?aO ?aB ?aS ?aL ?_; (case aP => exact rfl); (case aB => exact (by repeat (first | (with_reducible first | exact HB.out | apply below_alloc | apply pw_below_drewN | apply below_drew1) | exact HB.out))); (case aF => exact (fun _ _ => trivial)); (case aO => exact (by (with_reducible repeat (first | apply Kd.R_alloc | apply Kd.R_drewN | apply Kd.R_drew)); exact HO_6.out)); (case aS => exact (below_size (by repeat (first | (with_reducible first | exact HB.out | apply below_alloc | apply pw_below_drewN | apply below_drew1) | exact HB.out)))); (case aL => have := LMc61.out; omega); intro v323 w63 ho hb hg hat; rw [← Ny322.out] at ho; have n0_ := Aside0.mk (hb); have n1_ := Aside0.mk (ho); clear HB; clear HO_6; have HB := n0_; have HO324 := n1_; clear n0_ n1_; clear ho hb hg hat))
                                        go_roundg k3
                                        case measure => have := HJ4.out; have := HK2.out; have := HK3.out; omega
                                        case rel => exact ⟨(y322), (x7_3 ++ (⟨#[10]⟩ : ByteArray)), (wrap64 (x8_2 + 1)), (by first | rfl | (simp; done) | (simp [*]; done)), (by first | rfl | (simp; done) | (simp [*]; done)), H', ⟨by have := HJ4.out; have := HK2.out; have := HK3.out; omega⟩, ⟨by (with_reducible repeat (first | apply Kd.R_alloc | apply Kd.R_drewN | apply Kd.R_drew)); exact HO324.out⟩, ⟨by repeat (first | (with_reducible first | exact HB.out | apply below_alloc | apply pw_below_drewN | apply below_drew1) | exact HB.out)⟩⟩
                                      · rw [if_neg c62] at H
                                        exact absurd H (by simp)
                                    · rw [if_neg c61] at H
                                      exact absurd H (by simp)
                              · rw [if_neg c33] at H
                                exact absurd H (by simp)
                          · rw [if_neg c13] at H
                            exact absurd H (by simp)
                        · rw [if_neg c12] at H
                          exact absurd H (by simp)
                · rw [if_neg c10] at H
                  exact absurd H (by simp)
              · rw [if_neg c9] at H
                have c9b0 : decide (x8_2 < (l0.length : Int)) = false := decide_eq_false c9
                clear c9
                replace H := Option.bind_eq_some_iff.mp H
                obtain ⟨⟨t278, t281⟩, A640, H⟩ := H
                replace H : (if t281 = true then (some ((strOfNums t278).toList == x7_2.toList)) else (some false)) = some r := H
                have A64 := Aside0.mk A640
                clear A640
                by_cases c65 : t281 = true
                · subst c65
                  have H1 : (some ((strOfNums t278).toList == x7_2.toList)) = some r := by rw [if_pos rfl] at H; exact H
                  clear H
                  have H := H1
                  clear H1
                  obtain rfl := Option.some.inj H
                  obtain ⟨Ao66, co66, eo66⟩ := Kd.R_slice HO_6.out
                  subst eo66
                  go_wp2_with (first | ((with_reducible refine gate_callee (f := 8) rfl ?_); refine goesL_ (some 94) rfl rfl Try.func8 (by kernel_rfl) rfl #[.slice Ao66 x6_2.length co66] rfl (by (try simp only [List.map_toArray, List.map_cons, List.map_nil]); first | done | rfl | (simp only [List.length_drop, List.length_take]; rfl)) ?_; (with_reducible refine (qp_Decode.calls k2 (fun k_ => some k_ = (.slice Ao66 x6_2.length co66 : Value).ownBlock) _ _ x6_2 t278 true _ ?side1 A64.out).mono ?_); (case side1 => exact Kd.R_V (Kd.R_tight rfl (HO_6.out))); rintro e w67 ⟨v279, rfl, ho0, hb⟩; refine ⟨_, rfl, ?_⟩; have n0_ := Aside0.mk (Kd.R_elder' (by (with_reducible repeat (first | apply Kd.R_alloc | apply Kd.R_drewN | apply Kd.R_drew)); exact HO_6.out) (Kd.R_base ho0) hb); have n1_ := Aside0.mk (Kd.R_lower (Kd.R_new' (Kd.R_mono (ok' := fun k_ => True) ho0 (fun _ hk_ => trivial)) (Kd.R_lt (by (with_reducible repeat (first | apply Kd.R_alloc | apply Kd.R_drewN | apply Kd.R_drew)); exact HO_6.out))) (below_size (by repeat (first | (with_reducible first | exact HB.out | apply below_alloc | apply pw_below_drewN | apply below_drew1) | exact HB.out)))); have n2_ := Aside0.mk (below_step (by repeat (first | (with_reducible first | exact HB.out | apply below_alloc | apply pw_below_drewN | apply below_drew1) | exact HB.out)) hb); clear HO_6; clear HB; have HO_6 := n0_; have HO280 := n1_; have HB := n2_; clear n0_ n1_ n2_; (try clear hb); (try clear hb2); (try clear hk); (try clear hi); (try clear ho0); have hcv68 := fun n_ : Nat => own_string (P := Try.prog) Try.underlying22 Try.underlying5 Try.underlying9 (Kd.own_of_R (Kd.R_drewN HO280.out n_)); have hcv69 := fun m_ n_ : Nat => own_string (P := Try.prog) Try.underlying22 Try.underlying5 Try.underlying9 (Kd.own_of_R (Kd.R_drewN (Kd.R_drewN HO280.out m_) n_)); have hcv70 := own_string (P := Try.prog) Try.underlying22 Try.underlying5 Try.underlying9 (Kd.own_of_R HO280.out)))
                  go_ret
                  exact ⟨by first | rfl | (simp [errW_none, errW_some] <;> rfl) | (simp [*, errW_none, errW_some] <;> rfl), by repeat (first | (with_reducible first | exact HB.out | apply below_alloc | apply pw_below_drewN | apply below_drew1) | exact HB.out)⟩
                · replace c65 := Bool.eq_false_iff.mpr c65
                  subst c65
                  have H1 : (some false) = some r := by rw [if_neg (show ¬ (false = true) by decide)] at H; exact H
                  clear H
                  have H := H1
                  clear H1
                  obtain rfl := Option.some.inj H
                  obtain ⟨Ao71, co71, eo71⟩ := Kd.R_slice HO_6.out
                  subst eo71
                  go_wp2_with (first | ((with_reducible refine gate_callee (f := 8) rfl ?_); refine goesL_ (some 94) rfl rfl Try.func8 (by kernel_rfl) rfl #[.slice Ao71 x6_2.length co71] rfl (by (try simp only [List.map_toArray, List.map_cons, List.map_nil]); first | done | rfl | (simp only [List.length_drop, List.length_take]; rfl)) ?_; (with_reducible refine (qp_Decode.calls k2 (fun k_ => some k_ = (.slice Ao71 x6_2.length co71 : Value).ownBlock) _ _ x6_2 t278 false _ ?side1 A64.out).mono ?_); (case side1 => exact Kd.R_V (Kd.R_tight rfl (HO_6.out))); rintro e w72 ⟨v279, rfl, ho0, hb⟩; refine ⟨_, rfl, ?_⟩; have n0_ := Aside0.mk (Kd.R_elder' (by (with_reducible repeat (first | apply Kd.R_alloc | apply Kd.R_drewN | apply Kd.R_drew)); exact HO_6.out) (Kd.R_base ho0) hb); have n1_ := Aside0.mk (Kd.R_lower (Kd.R_new' (Kd.R_mono (ok' := fun k_ => True) ho0 (fun _ hk_ => trivial)) (Kd.R_lt (by (with_reducible repeat (first | apply Kd.R_alloc | apply Kd.R_drewN | apply Kd.R_drew)); exact HO_6.out))) (below_size (by repeat (first | (with_reducible first | exact HB.out | apply below_alloc | apply pw_below_drewN | apply below_drew1) | exact HB.out)))); have n2_ := Aside0.mk (below_step (by repeat (first | (with_reducible first | exact HB.out | apply below_alloc | apply pw_below_drewN | apply below_drew1) | exact HB.out)) hb); clear HO_6; clear HB; have HO_6 := n0_; have HO280 := n1_; have HB := n2_; clear n0_ n1_ n2_; (try clear hb); (try clear hb2); (try clear hk); (try clear hi); (try clear ho0)))
                  go_ret
                  exact ⟨by first | rfl | (simp [errW_none, errW_some] <;> rfl) | (simp [*, errW_none, errW_some] <;> rfl), by repeat (first | (with_reducible first | exact HB.out | apply below_alloc | apply pw_below_drewN | apply below_drew1) | exact HB.out)⟩
  · replace c4 := Bool.eq_false_iff.mpr c4
    subst c4
    have H1 : (some false) = some r := by rw [if_neg (show ¬ (false = true) by decide)] at H; exact H
    clear H
    have H := H1
    clear H1
    obtain rfl := Option.some.inj H
    go_enter Try.func5, Try.ntmps5
    go_wp2_with (first | ((with_reducible refine gate_callee (f := 7) rfl ?_); refine goesL_ (some 13) rfl rfl Try.func7 (by kernel_rfl) rfl #[] rfl (by (try simp only [List.map_toArray, List.map_cons, List.map_nil]); first | done | rfl | (simp only [List.length_drop, List.length_take]; rfl)) ?_; (with_reducible refine (letterboxlaw03_awake.calls  false _ A3.out).mono ?_); rintro e w73 ⟨rfl, hb⟩; refine ⟨_, rfl, ?_⟩; have n0_ := Aside0.mk (below_step (by repeat (first | (with_reducible first | exact HB.out | apply below_alloc | apply pw_below_drewN | apply below_drew1) | exact HB.out)) hb); clear HB; have HB := n0_; clear n0_; (try clear hb); (try clear hb2); (try clear hk); (try clear hi)))
    go_ret
    exact ⟨by first | rfl | (simp [errW_none, errW_some] <;> rfl) | (simp [*, errW_none, errW_some] <;> rfl), by repeat (first | (with_reducible first | exact HB.out | apply below_alloc | apply pw_below_drewN | apply below_drew1) | exact HB.out)⟩

/-- THE ONE PURE STATEMENT of letterboxlaw03_QpLines: yours. -/
def letterboxlaw03_QpLines.Pure : Prop := ∀ (l0 : List (List Int)) (l1 : List Int), (l0.length ≤ maxLen ∧ l0.length * 24 ≤ 140737488351232 ∧ ∀ x0_ ∈ l0, (x0_.length ≤ maxLen ∧ x0_.length * 1 ≤ 140737488351232 ∧ ∀ x1_ ∈ x0_, (Lit.int .u8 x1_).wf = true)) → l1.length ≤ maxLen → l1.length * 1 ≤ 140737488351232 → (∀ x ∈ l1, (Lit.int .u8 x).wf = true) → ∃ k, letterboxlaw03_QpLines.f k l0 l1 = some true
theorem letterboxlaw03_QpLines.walk (P : letterboxlaw03_QpLines.Pure) (a0 : Option Addr) (cap0 : Nat) (l0 : List (List Int)) (a1 : Option Addr) (len1 cap1 : Nat) (z1 : List Int) (w : World) (hC0 : Kd.C (Kd.slice 5 (Kd.int .u8)) w a0 l0.length l0) (hc0 : l0.length ≤ cap0) (hg0 : (l0.length ≤ maxLen ∧ l0.length * 24 ≤ 140737488351232 ∧ ∀ x0_ ∈ l0, (x0_.length ≤ maxLen ∧ x0_.length * 1 ≤ 140737488351232 ∧ ∀ x1_ ∈ x0_, (Lit.int .u8 x1_).wf = true))) (w1 : (a1 = none ∧ len1 = 0 ∧ cap1 = 0 ∧ z1 = []) ∨ ∃ x, a1 = some x ∧ len1 ≤ cap1 ∧ cap1 ≤ maxLen ∧ z1.length = cap1 ∧ (∀ i, i < z1.length → w.cell? (x.add i) = some (.int .u8 (z1.getD i 0))) ∧ ∀ n ∈ z1, (Lit.int .u8 n).wf = true) (y1 : len1 * 1 ≤ 140737488351232) :
    Calls Try.prog 5 #[.slice a0 l0.length cap0, .slice a1 len1 cap1] w fun e w' => e = .returned (.bool true) ∧ Below w.heap.size w w' := by
  obtain ⟨l1, rfl, hr1, hm1, hw1, hc1⟩ := ReadsInt.ofRowC w1
  obtain ⟨k, h⟩ := P l0 l1 hg0 hm1 y1 hw1
  refine (letterboxlaw03_QpLines.calls k _ _ l0 _ _ l1 true w hC0 hc0 (Kd.C_of_reads (d := (0 : Int)) (h1 := fun _ => rfl) hr1) hc1 h).mono ?_
  rintro e w' ⟨rfl, hd⟩
  exact ⟨rfl, hd⟩

end Go.Proofs.Ytcnbkblnchechaa.P
