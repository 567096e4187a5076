-- Written by a program of this session (wip/tools/mk.sh) for this claim: it runs the kit's print with contracts of our own. Lean checks it.
import Derived.Test.YtimnfkmjdnmdeaaPx0
import Derived.Test.YtimnfkmjdnmdeaaZStr
import Derived.Test.YtimnfkmjdnmdeaaPx4
namespace Go.Proofs.Ytimnfkmjdnmdeaa.P
open Go.RowKit Go.Proofs.YtimnfkmjdnmdeaaW.PrintWords Go.Proofs.YtimnfkmjdnmdeaaW.PrintLast Go.Proofs.YtimnfkmjdnmdeaaW.PrintMore
attribute [-simp] Int.tmod_tmod_of_dvd
attribute [local go_sem] max2_int min2_int max_two min_two max_three min_three max_four min_four   -- for this text's walks alone
set_option linter.unusedVariables false
set_option linter.unusedSimpArgs false

/-! ### letterboxref21_Parse: function 9 -/
mutual
def letterboxref21_Parse.l0 : Nat → List ByteArray → List (S33) → Int → Option ((List (S33)) × Int)
  | 0, _, _, _ => none
  | k + 1, x4, x5, x6 => if x6 < (x4.length : Int) then (letterboxref21_Parse.l1 k x4 x5 x6 0) else (if (x5.length : Int) > 1000 then (some (([] : List (S33)), 13)) else (some (x5, 0)))
def letterboxref21_Parse.j2 : Nat → List ByteArray → List (S33) → Int → Int → Option ((List (S33)) × Int)
  | 0, _, _, _, _ => none
  | k + 1, x4, x5, x6, x7 => if 0 ≤ x6 then (if x6 < (x4.length : Int) then (if 0 ≤ x7 then (if x7 ≤ ((rdOf ByteArray.empty x4 x6).size : Int) then ((letterboxref21_number.f k ((rdOf ByteArray.empty x4 x6).extract 0 (x7 : Int).toNat)).bind fun t188 => (if x7 < ((rdOf ByteArray.empty x4 x6).size : Int) then (if 0 ≤ (wrap64 (x7 + 1)) then (if (wrap64 (x7 + 1)) ≤ ((rdOf ByteArray.empty x4 x6).size : Int) then ((letterboxref21_number.f k ((rdOf ByteArray.empty x4 x6).extract ((wrap64 (x7 + 1)) : Int).toNat (rdOf ByteArray.empty x4 x6).size)).bind fun t191 => (if t188 < 0 then (some (([] : List (S33)), 50)) else (if t191 < 0 then (some (([] : List (S33)), 50)) else (if x5.length < 8796093022208 then (letterboxref21_Parse.l0 k x4 (x5 ++ [(⟨t188, t191⟩ : S33)]) (wrap64 (x6 + 1))) else (none))))) else (none)) else (none)) else (if t188 < 0 then (some (([] : List (S33)), 50)) else (if x5.length < 8796093022208 then (letterboxref21_Parse.l0 k x4 (x5 ++ [(⟨t188, t188⟩ : S33)]) (wrap64 (x6 + 1))) else (none))))) else (none)) else (none)) else (none)) else (none)
def letterboxref21_Parse.l1 : Nat → List ByteArray → List (S33) → Int → Int → Option ((List (S33)) × Int)
  | 0, _, _, _, _ => none
  | k + 1, x4, x5, x6, x7 => if 0 ≤ x6 then (if x6 < (x4.length : Int) then (if x7 < ((rdOf ByteArray.empty x4 x6).size : Int) then (if 0 ≤ x7 then (if (bt (rdOf ByteArray.empty x4 x6) x7) = 58 then (letterboxref21_Parse.j2 k x4 x5 x6 x7) else (letterboxref21_Parse.l1 k x4 x5 x6 (wrap64 (x7 + 1)))) else (none)) else (letterboxref21_Parse.j2 k x4 x5 x6 x7)) else (none)) else (none)
end
def letterboxref21_Parse.f (k : Nat) (a0 : ByteArray) : Option ((List (S33)) × Int) := (letterboxref01_Split.f k a0 44).bind fun t182 => (letterboxref21_Parse.l0 k t182 ([] : List (S33)) 0)
theorem letterboxref21_Parse.mono_l : ∀ k, (∀ y0 y1 y2, LeO (letterboxref21_Parse.l0 k y0 y1 y2) (letterboxref21_Parse.l0 (k + 1) y0 y1 y2)) ∧ (∀ y0 y1 y2 y3, LeO (letterboxref21_Parse.j2 k y0 y1 y2 y3) (letterboxref21_Parse.j2 (k + 1) y0 y1 y2 y3)) ∧ (∀ y0 y1 y2 y3, LeO (letterboxref21_Parse.l1 k y0 y1 y2 y3) (letterboxref21_Parse.l1 (k + 1) y0 y1 y2 y3))
  | 0 => ⟨fun _ _ _ r h => by simp [letterboxref21_Parse.l0] at h, fun _ _ _ _ r h => by simp [letterboxref21_Parse.j2] at h, fun _ _ _ _ r h => by simp [letterboxref21_Parse.l1] at h⟩
  | k + 1 => by
    obtain ⟨ih0, ih1, ih2⟩ := letterboxref21_Parse.mono_l k
    refine ⟨?_, ?_, ?_⟩
    · intro y0 y1 y2
      unfold letterboxref21_Parse.l0
      repeat' first
      | (with_reducible exact ih0 _ _ _)
      | (with_reducible exact ih1 _ _ _ _)
      | (with_reducible exact ih2 _ _ _ _)
      | (with_reducible exact letterboxref01_Split.mono _ _ _)
      | (with_reducible exact letterboxref21_number.mono _ _)
      | (with_reducible exact LeO.refl _)
      | (with_reducible exact LeO.none _)
      | (with_reducible refine LeO.ite ?_ ?_)
      | (with_reducible refine LeO.bind ?_ (fun _ => ?_))
      | exact ih0 _ _ _
      | exact ih1 _ _ _ _
      | exact ih2 _ _ _ _
      | exact letterboxref01_Split.mono _ _ _
      | exact letterboxref21_number.mono _ _
      | exact LeO.none _
      | refine LeO.ite ?_ ?_
      | refine LeO.bind ?_ (fun _ => ?_)
    · intro y0 y1 y2 y3
      unfold letterboxref21_Parse.j2
      repeat' first
      | (with_reducible exact ih0 _ _ _)
      | (with_reducible exact ih1 _ _ _ _)
      | (with_reducible exact ih2 _ _ _ _)
      | (with_reducible exact letterboxref01_Split.mono _ _ _)
      | (with_reducible exact letterboxref21_number.mono _ _)
      | (with_reducible exact LeO.refl _)
      | (with_reducible exact LeO.none _)
      | (with_reducible refine LeO.ite ?_ ?_)
      | (with_reducible refine LeO.bind ?_ (fun _ => ?_))
      | exact ih0 _ _ _
      | exact ih1 _ _ _ _
      | exact ih2 _ _ _ _
      | exact letterboxref01_Split.mono _ _ _
      | exact letterboxref21_number.mono _ _
      | exact LeO.none _
      | refine LeO.ite ?_ ?_
      | refine LeO.bind ?_ (fun _ => ?_)
    · intro y0 y1 y2 y3
      unfold letterboxref21_Parse.l1
      repeat' first
      | (with_reducible exact ih0 _ _ _)
      | (with_reducible exact ih1 _ _ _ _)
      | (with_reducible exact ih2 _ _ _ _)
      | (with_reducible exact letterboxref01_Split.mono _ _ _)
      | (with_reducible exact letterboxref21_number.mono _ _)
      | (with_reducible exact LeO.refl _)
      | (with_reducible exact LeO.none _)
      | (with_reducible refine LeO.ite ?_ ?_)
      | (with_reducible refine LeO.bind ?_ (fun _ => ?_))
      | exact ih0 _ _ _
      | exact ih1 _ _ _ _
      | exact ih2 _ _ _ _
      | exact letterboxref01_Split.mono _ _ _
      | exact letterboxref21_number.mono _ _
      | exact LeO.none _
      | refine LeO.ite ?_ ?_
      | refine LeO.bind ?_ (fun _ => ?_)
theorem letterboxref21_Parse.mono : ∀ a0 k, LeO (letterboxref21_Parse.f k a0) (letterboxref21_Parse.f (k + 1) a0) := by
  intro a0 k
  obtain ⟨ih0, ih1, ih2⟩ := letterboxref21_Parse.mono_l k
  unfold letterboxref21_Parse.f
  repeat' first
      | (with_reducible exact ih0 _ _ _)
      | (with_reducible exact ih1 _ _ _ _)
      | (with_reducible exact ih2 _ _ _ _)
      | (with_reducible exact letterboxref01_Split.mono _ _ _)
      | (with_reducible exact letterboxref21_number.mono _ _)
      | (with_reducible exact LeO.refl _)
      | (with_reducible exact LeO.none _)
      | (with_reducible refine LeO.ite ?_ ?_)
      | (with_reducible refine LeO.bind ?_ (fun _ => ?_))
      | exact ih0 _ _ _
      | exact ih1 _ _ _ _
      | exact ih2 _ _ _ _
      | exact letterboxref01_Split.mono _ _ _
      | exact letterboxref21_number.mono _ _
      | exact LeO.none _
      | refine LeO.ite ?_ ?_
      | refine LeO.bind ?_ (fun _ => ?_)
set_option maxHeartbeats 8000000 in
set_option maxRecDepth 100000 in
theorem letterboxref21_Parse.calls (k : Nat) (a0 : ByteArray) (r1 : List (S33)) (r2 : Int) (w : World) (h : letterboxref21_Parse.f k a0 = some (r1, r2)) :
    Calls Try.prog 9 #[.string a0] w fun e w' => ∃ v0_ : Value, e = .returned (.tuple #[v0_, .int .i64 r2]) ∧ Kd.R k33 33 w' w.heap.size (fun _ => True) v0_ r1 ∧ Below w.heap.size w w' := by
  have hu33 := Try.underlying33
  have HB := Aside0.mk (Below.refl w.heap.size w)
  have H : ((letterboxref01_Split.f k a0 44).bind fun t182 => (letterboxref21_Parse.l0 k t182 ([] : List (S33)) 0)) = some (r1, r2) := h
  clear h
  replace H := Option.bind_eq_some_iff.mp H
  obtain ⟨t182, A20, H⟩ := H
  replace H : (letterboxref21_Parse.l0 k t182 ([] : List (S33)) 0) = some (r1, r2) := H
  have A2 := Aside0.mk A20
  clear A20
  have H' := Aside0.mk H
  clear H
  go_enter Try.func9, Try.ntmps9
  go_wp2_with (first | ((with_reducible refine gate_callee (f := 20) rfl ?_); refine goesL_ (some 11) rfl rfl Try.func20 (by kernel_rfl) rfl #[.string a0, .int .u8 44] rfl (by (try simp only [List.map_toArray, List.map_cons, List.map_nil]); first | done | rfl | (simp only [List.length_drop, List.length_take]; rfl)) ?_; (with_reducible refine (letterboxref01_Split.calls k a0 44 t182 _ A2.out).mono ?_); rintro e w3 ⟨v183, rfl, ho0, hb⟩; refine ⟨_, rfl, ?_⟩; have n0_ := Aside0.mk (Kd.R_lower ho0 (below_size (by repeat (first | (with_reducible first | exact HB.out | apply below_alloc | apply pw_below_drewN | apply below_drew1) | exact HB.out)))); have n1_ := Aside0.mk (below_step (by repeat (first | (with_reducible first | exact HB.out | apply below_alloc | apply pw_below_drewN | apply below_drew1) | exact HB.out)) hb); clear HB; have HO184 := n0_; have HB := n1_; clear n0_ n1_; (try clear hb); (try clear hb2); (try clear hk); (try clear hi); (try clear ho0)))
  go_loopg [5, 6] k (fun kq v5 v6 w' => ∃ (x5_1 : List (S33)) (x6_1 : Int), v6 = .int .i64 x6_1 ∧ Aside0 (letterboxref21_Parse.l0 kq t182 x5_1 x6_1 = some (r1, r2)) ∧ Aside0 (kq ≤ k) ∧ Aside0 (Kd.R Kd.string 9 w' w.heap.size (fun _ => True) v183 t182) ∧ Aside0 (Kd.R k33 33 w' w.heap.size (fun _ => True) v5 x5_1) ∧ Aside0 (Below w.heap.size w w'))
  case atStart => exact ⟨(([] : List (S33))), (0), (by first | rfl | (simp; done) | (simp [*]; done)), H', ⟨Nat.le_refl _⟩, ⟨by (with_reducible repeat (first | apply Kd.R_alloc | apply Kd.R_drewN | apply Kd.R_drew)); exact HO184.out⟩, ⟨by first | exact Kd.R_nil _ _ _ _ _ | exact Kd.N_nil _ _ _ _ _ | exact Kd.V_nil _ _ _ _ _ | exact Kd.Q_nil _ _ _ _ _ | exact Kd.S_nil _ _ _ _ _⟩, ⟨by repeat (first | (with_reducible first | exact HB.out | apply below_alloc | apply pw_below_drewN | apply below_drew1) | exact HB.out)⟩⟩
  case round =>
    clear H'
    try clear c2
    try clear p2
    obtain ⟨x5_1, x6_1, rfl, HA, HK1, HO_4, HO_5, HB⟩ := hrel
    cases gk with
    | zero => exact absurd HA.out (by simp [letterboxref21_Parse.l0])
    | succ k1 =>
      have H := HA.out
      clear HA
      simp only [letterboxref21_Parse.l0] at H
      by_cases c4 : x6_1 < (t182.length : Int)
      · rw [if_pos c4] at H
        have c4b0 : decide (x6_1 < (t182.length : Int)) = true := decide_eq_true c4
        clear c4
        have HC5 := Aside0.mk H
        clear H
        obtain ⟨Ao6, co6, eo6⟩ := Kd.R_slice HO_4.out
        subst eo6
        go_upto_block 2 with (fail)
        go_cut [7] (fun v7 wc => ∃ (kq : Nat) (x7_4 : Int), v7 = .int .i64 x7_4 ∧ Aside0 (letterboxref21_Parse.j2 kq t182 x5_1 x6_1 x7_4 = some (r1, r2)) ∧ Aside0 (kq ≤ k1) ∧ Aside0 (Kd.R Kd.string 9 wc w.heap.size (fun _ => True) (.slice Ao6 t182.length co6) t182) ∧ Aside0 (Kd.R k33 33 wc w.heap.size (fun _ => True) u5 x5_1) ∧ Aside0 (Below w.heap.size w wc))
        case first =>
          have H := HC5.out
          clear HC5
          have H' := Aside0.mk H
          clear H
          go_wp2
          go_loopg [7] k1 (fun kq v7 w' => ∃ (x7_2 : Int), v7 = .int .i64 x7_2 ∧ Aside0 (letterboxref21_Parse.l1 kq t182 x5_1 x6_1 x7_2 = some (r1, r2)) ∧ Aside0 (kq ≤ k1) ∧ Aside0 (Kd.R Kd.string 9 w' w.heap.size (fun _ => True) (.slice Ao6 t182.length co6) t182) ∧ Aside0 (Kd.R k33 33 w' w.heap.size (fun _ => True) u5 x5_1) ∧ Aside0 (Below w.heap.size w w'))
          case atStart => exact ⟨(0), (by first | rfl | (simp; done) | (simp [*]; done)), H', ⟨Nat.le_refl _⟩, ⟨by (with_reducible repeat (first | apply Kd.R_alloc | apply Kd.R_drewN | apply Kd.R_drew)); exact HO_4.out⟩, ⟨by (with_reducible repeat (first | apply Kd.R_alloc | apply Kd.R_drewN | apply Kd.R_drew)); exact HO_5.out⟩, ⟨by repeat (first | (with_reducible first | exact HB.out | apply below_alloc | apply pw_below_drewN | apply below_drew1) | exact HB.out)⟩⟩
          case round =>
            clear H'
            try clear c2
            try clear p2
            try clear c4
            try clear c4b0
            try clear p2
            obtain ⟨x7_2, rfl, HA, HK2, HO_4, HO_5, HB⟩ := hrel
            cases gk with
            | zero => exact absurd HA.out (by simp [letterboxref21_Parse.l1])
            | succ k2 =>
              have H := HA.out
              clear HA
              simp only [letterboxref21_Parse.l1] at H
              by_cases c7 : 0 ≤ x6_1
              · rw [if_pos c7] at H
                have c7b0 : decide (0 ≤ x6_1) = true := decide_eq_true c7
                clear c7
                (first | rw [c7b0] | (simp only [i64_w, i32_w]; rw [c7b0]) | skip)
                by_cases c8 : x6_1 < (t182.length : Int)
                · rw [if_pos c8] at H
                  have c8b0 : decide (x6_1 < (t182.length : Int)) = true := decide_eq_true c8
                  clear c8
                  by_cases c9 : x7_2 < ((rdOf ByteArray.empty t182 x6_1).size : Int)
                  · rw [if_pos c9] at H
                    have c9b0 : decide (x7_2 < ((rdOf ByteArray.empty t182 x6_1).size : Int)) = true := decide_eq_true c9
                    clear c9
                    by_cases c10 : 0 ≤ x7_2
                    · rw [if_pos c10] at H
                      have c10b0 : decide (0 ≤ x7_2) = true := decide_eq_true c10
                      clear c10
                      by_cases c12 : (bt (rdOf ByteArray.empty t182 x6_1) x7_2) = 58
                      · rw [if_pos c12] at H
                        have c12b0 : ((bt (rdOf ByteArray.empty t182 x6_1) x7_2) == 58) = true := beq_iff_eq.mpr c12
                        have c12b1 : ((bt (rdOf ByteArray.empty t182 x6_1) x7_2) != 58) = false := bne_eq_false_iff_eq.mpr c12
                        clear c12
                        have H' := Aside0.mk H
                        clear H
                        have p185 : 0 ≤ (x6_1 : Int) := of_decide_eq_true (by first | (with_reducible assumption) | assumption)
                        have q185 : x6_1 < (t182.length : Int) := of_decide_eq_true (by first | (with_reducible assumption) | assumption)
                        obtain ⟨ad185, e185, hx185_0⟩ := Kd.at_string (Kd.R_reads' HO_4.out).2.2 x6_1 p185 q185
                        cases e185
                        replace p185 := eq_true p185
                        replace q185 := eq_true q185
                        have p186 : 0 ≤ (x6_1 : Int) := of_decide_eq_true (by first | (with_reducible assumption) | assumption)
                        have q186 : x6_1 < (t182.length : Int) := of_decide_eq_true (by first | (with_reducible assumption) | assumption)
                        obtain ⟨ad186, e186, hx186_0⟩ := Kd.at_string (Kd.R_reads' HO_4.out).2.2 x6_1 p186 q186
                        obtain rfl : ad185 = ad186 := (by injection e186)
                        replace p186 := eq_true p186
                        replace q186 := eq_true q186
                        have p11 : 0 ≤ (x7_2 : Int) := of_decide_eq_true (by first | (with_reducible assumption) | assumption)
                        have q11 : x7_2 < ((rdOf ByteArray.empty t182 x6_1).size : Int) := of_decide_eq_true (by first | (with_reducible assumption) | assumption)
                        have hx11 := bt_at (rdOf ByteArray.empty t182 x6_1) x7_2
                        replace p11 := eq_true p11
                        replace q11 := eq_true q11
                        go_wp2
                        go_meet
                        case rel => exact ⟨_, (x7_2), (by first | rfl | (simp; done) | (simp [*]; done)), H', ⟨by have := HK1.out; have := HK2.out; first | omega | exact Nat.le_refl _⟩, ⟨by (with_reducible repeat (first | apply Kd.R_alloc | apply Kd.R_drewN | apply Kd.R_drew)); exact HO_4.out⟩, ⟨by (with_reducible repeat (first | apply Kd.R_alloc | apply Kd.R_drewN | apply Kd.R_drew)); exact HO_5.out⟩, ⟨by repeat (first | (with_reducible first | exact HB.out | apply below_alloc | apply pw_below_drewN | apply below_drew1) | exact HB.out)⟩⟩
                      · rw [if_neg c12] at H
                        have c12b0 : ((bt (rdOf ByteArray.empty t182 x6_1) x7_2) == 58) = false := beq_eq_false_iff_ne.mpr c12
                        have c12b1 : ((bt (rdOf ByteArray.empty t182 x6_1) x7_2) != 58) = true := bne_iff_ne.mpr c12
                        have H' := Aside0.mk H
                        clear H
                        have p185 : 0 ≤ (x6_1 : Int) := of_decide_eq_true (by first | (with_reducible assumption) | assumption)
                        have q185 : x6_1 < (t182.length : Int) := of_decide_eq_true (by first | (with_reducible assumption) | assumption)
                        obtain ⟨ad185, e185, hx185_0⟩ := Kd.at_string (Kd.R_reads' HO_4.out).2.2 x6_1 p185 q185
                        cases e185
                        replace p185 := eq_true p185
                        replace q185 := eq_true q185
                        have p186 : 0 ≤ (x6_1 : Int) := of_decide_eq_true (by first | (with_reducible assumption) | assumption)
                        have q186 : x6_1 < (t182.length : Int) := of_decide_eq_true (by first | (with_reducible assumption) | assumption)
                        obtain ⟨ad186, e186, hx186_0⟩ := Kd.at_string (Kd.R_reads' HO_4.out).2.2 x6_1 p186 q186
                        obtain rfl : ad185 = ad186 := (by injection e186)
                        replace p186 := eq_true p186
                        replace q186 := eq_true q186
                        have p11 : 0 ≤ (x7_2 : Int) := of_decide_eq_true (by first | (with_reducible assumption) | assumption)
                        have q11 : x7_2 < ((rdOf ByteArray.empty t182 x6_1).size : Int) := of_decide_eq_true (by first | (with_reducible assumption) | assumption)
                        have hx11 := bt_at (rdOf ByteArray.empty t182 x6_1) x7_2
                        replace p11 := eq_true p11
                        replace q11 := eq_true q11
                        go_wp2
                        go_roundg k2
                        case measure => have := HK1.out; have := HK2.out; omega
                        case rel => exact ⟨(wrap64 (x7_2 + 1)), (by first | rfl | (simp; done) | (simp [*]; done)), H', ⟨by have := HK1.out; have := HK2.out; omega⟩, ⟨by (with_reducible repeat (first | apply Kd.R_alloc | apply Kd.R_drewN | apply Kd.R_drew)); exact HO_4.out⟩, ⟨by (with_reducible repeat (first | apply Kd.R_alloc | apply Kd.R_drewN | apply Kd.R_drew)); exact HO_5.out⟩, ⟨by repeat (first | (with_reducible first | exact HB.out | apply below_alloc | apply pw_below_drewN | apply below_drew1) | exact HB.out)⟩⟩
                    · rw [if_neg c10] at H
                      exact absurd H (by simp)
                  · rw [if_neg c9] at H
                    have c9b0 : decide (x7_2 < ((rdOf ByteArray.empty t182 x6_1).size : Int)) = false := decide_eq_false c9
                    clear c9
                    have H' := Aside0.mk H
                    clear H
                    have p185 : 0 ≤ (x6_1 : Int) := of_decide_eq_true (by first | (with_reducible assumption) | assumption)
                    have q185 : x6_1 < (t182.length : Int) := of_decide_eq_true (by first | (with_reducible assumption) | assumption)
                    obtain ⟨ad185, e185, hx185_0⟩ := Kd.at_string (Kd.R_reads' HO_4.out).2.2 x6_1 p185 q185
                    cases e185
                    replace p185 := eq_true p185
                    replace q185 := eq_true q185
                    go_wp2
                    go_meet
                    case rel => exact ⟨_, (x7_2), (by first | rfl | (simp; done) | (simp [*]; done)), H', ⟨by have := HK1.out; have := HK2.out; first | omega | exact Nat.le_refl _⟩, ⟨by (with_reducible repeat (first | apply Kd.R_alloc | apply Kd.R_drewN | apply Kd.R_drew)); exact HO_4.out⟩, ⟨by (with_reducible repeat (first | apply Kd.R_alloc | apply Kd.R_drewN | apply Kd.R_drew)); exact HO_5.out⟩, ⟨by repeat (first | (with_reducible first | exact HB.out | apply below_alloc | apply pw_below_drewN | apply below_drew1) | exact HB.out)⟩⟩
                · rw [if_neg c8] at H
                  exact absurd H (by simp)
              · rw [if_neg c7] at H
                exact absurd H (by simp)
        case rest =>
          clear HC5
          try clear c1
          try clear p1
          try clear q1
          try clear hx1
          try clear c2
          try clear p2
          try clear c4
          try clear c4b0
          try clear p6
          try clear c7
          try clear c7b0
          try clear c8
          try clear c8b0
          try clear c9
          try clear c9b0
          try clear c10
          try clear c10b0
          try clear p11
          try clear q11
          try clear hx11
          try clear c12
          try clear c12b0
          try clear c12b1
          try clear hx185_0
          try clear hx186_0
          try clear p11
          try clear p185
          try clear p186
          try clear p2
          try clear q11
          try clear q185
          try clear q186
          obtain ⟨kq, x7_4, rfl, HA, HJ4, HO_4, HO_5, HB⟩ := hcut
          cases kq with
          | zero => exact absurd HA.out (by simp [letterboxref21_Parse.j2])
          | succ kj4 =>
            have H := HA.out
            clear HA
            simp only [letterboxref21_Parse.j2] at H
            by_cases c13 : 0 ≤ x6_1
            · rw [if_pos c13] at H
              have c13b0 : decide (0 ≤ x6_1) = true := decide_eq_true c13
              clear c13
              by_cases c14 : x6_1 < (t182.length : Int)
              · rw [if_pos c14] at H
                have c14b0 : decide (x6_1 < (t182.length : Int)) = true := decide_eq_true c14
                clear c14
                by_cases c15 : 0 ≤ x7_4
                · rw [if_pos c15] at H
                  have c15b0 := eq_true c15
                  have c15b1 : decide (0 ≤ x7_4) = true := decide_eq_true c15
                  clear c15
                  by_cases c16 : x7_4 ≤ ((rdOf ByteArray.empty t182 x6_1).size : Int)
                  · rw [if_pos c16] at H
                    have c16b0 := eq_true c16
                    have c16b1 : decide (x7_4 ≤ ((rdOf ByteArray.empty t182 x6_1).size : Int)) = true := decide_eq_true c16
                    clear c16
                    replace H := Option.bind_eq_some_iff.mp H
                    obtain ⟨t188, A170, H⟩ := H
                    replace H : (if x7_4 < ((rdOf ByteArray.empty t182 x6_1).size : Int) then (if 0 ≤ (wrap64 (x7_4 + 1)) then (if (wrap64 (x7_4 + 1)) ≤ ((rdOf ByteArray.empty t182 x6_1).size : Int) then ((letterboxref21_number.f kj4 ((rdOf ByteArray.empty t182 x6_1).extract ((wrap64 (x7_4 + 1)) : Int).toNat (rdOf ByteArray.empty t182 x6_1).size)).bind fun t191 => (if t188 < 0 then (some (([] : List (S33)), 50)) else (if t191 < 0 then (some (([] : List (S33)), 50)) else (if x5_1.length < 8796093022208 then (letterboxref21_Parse.l0 kj4 t182 (x5_1 ++ [(⟨t188, t191⟩ : S33)]) (wrap64 (x6_1 + 1))) else (none))))) else (none)) else (none)) else (if t188 < 0 then (some (([] : List (S33)), 50)) else (if x5_1.length < 8796093022208 then (letterboxref21_Parse.l0 kj4 t182 (x5_1 ++ [(⟨t188, t188⟩ : S33)]) (wrap64 (x6_1 + 1))) else (none)))) = some (r1, r2) := H
                    have A17 := Aside0.mk A170
                    clear A170
                    by_cases c18 : x7_4 < ((rdOf ByteArray.empty t182 x6_1).size : Int)
                    · rw [if_pos c18] at H
                      have c18b0 : decide (x7_4 < ((rdOf ByteArray.empty t182 x6_1).size : Int)) = true := decide_eq_true c18
                      clear c18
                      obtain ⟨ji19, hji19⟩ : ∃ j_ : Int, (wrap64 (x7_4 + 1)) = j_ := ⟨_, rfl⟩
                      replace H : (if 0 ≤ (ji19) then (if (ji19) ≤ ((rdOf ByteArray.empty t182 x6_1).size : Int) then ((letterboxref21_number.f kj4 ((rdOf ByteArray.empty t182 x6_1).extract ((ji19) : Int).toNat (rdOf ByteArray.empty t182 x6_1).size)).bind fun t191 => (if t188 < 0 then (some (([] : List (S33)), 50)) else (if t191 < 0 then (some (([] : List (S33)), 50)) else (if x5_1.length < 8796093022208 then (letterboxref21_Parse.l0 kj4 t182 (x5_1 ++ [(⟨t188, t191⟩ : S33)]) (wrap64 (x6_1 + 1))) else (none))))) else (none)) else (none)) = some (r1, r2) := by first | (rw [hji19] at H; exact H) | (simp only [hji19] at H ⊢; exact H)
                      (try rw [hji19] at A17)
                      have hji19w : (IntKind.i64.wrap (x7_4 + 1)) = ji19 := (i64_w _).trans hji19
                      by_cases c20 : 0 ≤ (ji19)
                      · rw [if_pos c20] at H
                        have c20b0 := eq_true c20
                        have c20b1 : decide (0 ≤ (ji19)) = true := decide_eq_true c20
                        clear c20
                        by_cases c21 : (ji19) ≤ ((rdOf ByteArray.empty t182 x6_1).size : Int)
                        · rw [if_pos c21] at H
                          have c21b0 := eq_true c21
                          have c21b1 : decide ((ji19) ≤ ((rdOf ByteArray.empty t182 x6_1).size : Int)) = true := decide_eq_true c21
                          clear c21
                          replace H := Option.bind_eq_some_iff.mp H
                          obtain ⟨t191, A220, H⟩ := H
                          replace H : (if t188 < 0 then (some (([] : List (S33)), 50)) else (if t191 < 0 then (some (([] : List (S33)), 50)) else (if x5_1.length < 8796093022208 then (letterboxref21_Parse.l0 kj4 t182 (x5_1 ++ [(⟨t188, t191⟩ : S33)]) (wrap64 (x6_1 + 1))) else (none)))) = some (r1, r2) := H
                          have A22 := Aside0.mk A220
                          clear A220
                          by_cases c23 : t188 < 0
                          · rw [if_pos c23] at H
                            have c23b0 : decide (t188 < 0) = true := decide_eq_true c23
                            clear c23
                            simp only [Option.some.injEq, Prod.mk.injEq] at H
                            obtain ⟨rfl, rfl⟩ := H
                            have p187 : 0 ≤ (x6_1 : Int) := of_decide_eq_true (by first | (with_reducible assumption) | assumption)
                            have q187 : x6_1 < (t182.length : Int) := of_decide_eq_true (by first | (with_reducible assumption) | assumption)
                            obtain ⟨ad187, e187, hx187_0⟩ := Kd.at_string (Kd.R_reads' HO_4.out).2.2 x6_1 p187 q187
                            cases e187
                            replace p187 := eq_true p187
                            replace q187 := eq_true q187
                            go_wp2_with (first | ((with_reducible refine gate_callee (f := 21) rfl ?_); refine goesL_ (some 42) rfl rfl Try.func21 (by kernel_rfl) rfl #[.string ((rdOf ByteArray.empty t182 x6_1).extract 0 (x7_4 : Int).toNat)] rfl (by (try simp only [List.map_toArray, List.map_cons, List.map_nil]); first | done | rfl | (simp only [List.length_drop, List.length_take]; rfl)) ?_; (with_reducible refine (letterboxref21_number.calls kj4 ((rdOf ByteArray.empty t182 x6_1).extract 0 (x7_4 : Int).toNat) t188 _ A17.out).mono ?_); rintro e w' ⟨rfl, ⟨nd, rfl⟩⟩; refine ⟨_, rfl, ?_⟩; have p189 : 0 ≤ (x6_1 : Int) := of_decide_eq_true (by first | (with_reducible assumption) | assumption); have q189 : x6_1 < (t182.length : Int) := of_decide_eq_true (by first | (with_reducible assumption) | assumption); obtain ⟨ad189, e189, hx189_0⟩ := Kd.at_string (Kd.R_reads' HO_4.out).2.2 x6_1 p189 q189; obtain rfl : ad187 = ad189 := (by injection e189); replace p189 := eq_true p189; replace q189 := eq_true q189; have p190 : 0 ≤ (x6_1 : Int) := of_decide_eq_true (by first | (with_reducible assumption) | assumption); have q190 : x6_1 < (t182.length : Int) := of_decide_eq_true (by first | (with_reducible assumption) | assumption); obtain ⟨ad190, e190, hx190_0⟩ := Kd.at_string (Kd.R_reads' HO_4.out).2.2 x6_1 p190 q190; obtain rfl : ad187 = ad190 := (by injection e190); replace p190 := eq_true p190; replace q190 := eq_true q190) | ((with_reducible refine gate_callee (f := 21) rfl ?_); refine goesL_ (some 58) rfl rfl Try.func21 (by kernel_rfl) rfl #[.string ((rdOf ByteArray.empty t182 x6_1).extract ((ji19) : Int).toNat (rdOf ByteArray.empty t182 x6_1).size)] rfl (by (try simp only [List.map_toArray, List.map_cons, List.map_nil]); first | done | (simp only [hji19]; rfl) | rfl | (simp only [List.length_drop, List.length_take]; rfl)) ?_; (with_reducible refine (letterboxref21_number.calls kj4 ((rdOf ByteArray.empty t182 x6_1).extract ((ji19) : Int).toNat (rdOf ByteArray.empty t182 x6_1).size) t191 _ A22.out).mono ?_); rintro e w' ⟨rfl, ⟨nd, rfl⟩⟩; refine ⟨_, rfl, ?_⟩))
                            go_ret2
                            exact ⟨_, by first | rfl | (simp [errW_none, errW_some] <;> rfl) | (simp only [← hji19]; first | rfl | (simp [errW_none, errW_some] <;> rfl)) | (simp [*, errW_none, errW_some] <;> rfl), by first | exact Kd.R_nil _ _ _ _ _ | exact Kd.N_nil _ _ _ _ _ | exact Kd.V_nil _ _ _ _ _ | exact Kd.Q_nil _ _ _ _ _ | exact Kd.S_nil _ _ _ _ _, by repeat (first | (with_reducible first | exact HB.out | apply below_alloc | apply pw_below_drewN | apply below_drew1) | exact HB.out)⟩
                          · rw [if_neg c23] at H
                            have c23b0 : decide (t188 < 0) = false := decide_eq_false c23
                            clear c23
                            by_cases c24 : t191 < 0
                            · rw [if_pos c24] at H
                              have c24b0 : decide (t191 < 0) = true := decide_eq_true c24
                              clear c24
                              simp only [Option.some.injEq, Prod.mk.injEq] at H
                              obtain ⟨rfl, rfl⟩ := H
                              have p187 : 0 ≤ (x6_1 : Int) := of_decide_eq_true (by first | (with_reducible assumption) | assumption)
                              have q187 : x6_1 < (t182.length : Int) := of_decide_eq_true (by first | (with_reducible assumption) | assumption)
                              obtain ⟨ad187, e187, hx187_0⟩ := Kd.at_string (Kd.R_reads' HO_4.out).2.2 x6_1 p187 q187
                              cases e187
                              replace p187 := eq_true p187
                              replace q187 := eq_true q187
                              go_wp2_with (first | ((with_reducible refine gate_callee (f := 21) rfl ?_); refine goesL_ (some 42) rfl rfl Try.func21 (by kernel_rfl) rfl #[.string ((rdOf ByteArray.empty t182 x6_1).extract 0 (x7_4 : Int).toNat)] rfl (by (try simp only [List.map_toArray, List.map_cons, List.map_nil]); first | done | rfl | (simp only [List.length_drop, List.length_take]; rfl)) ?_; (with_reducible refine (letterboxref21_number.calls kj4 ((rdOf ByteArray.empty t182 x6_1).extract 0 (x7_4 : Int).toNat) t188 _ A17.out).mono ?_); rintro e w' ⟨rfl, ⟨nd, rfl⟩⟩; refine ⟨_, rfl, ?_⟩; have p189 : 0 ≤ (x6_1 : Int) := of_decide_eq_true (by first | (with_reducible assumption) | assumption); have q189 : x6_1 < (t182.length : Int) := of_decide_eq_true (by first | (with_reducible assumption) | assumption); obtain ⟨ad189, e189, hx189_0⟩ := Kd.at_string (Kd.R_reads' HO_4.out).2.2 x6_1 p189 q189; obtain rfl : ad187 = ad189 := (by injection e189); replace p189 := eq_true p189; replace q189 := eq_true q189; have p190 : 0 ≤ (x6_1 : Int) := of_decide_eq_true (by first | (with_reducible assumption) | assumption); have q190 : x6_1 < (t182.length : Int) := of_decide_eq_true (by first | (with_reducible assumption) | assumption); obtain ⟨ad190, e190, hx190_0⟩ := Kd.at_string (Kd.R_reads' HO_4.out).2.2 x6_1 p190 q190; obtain rfl : ad187 = ad190 := (by injection e190); replace p190 := eq_true p190; replace q190 := eq_true q190) | ((with_reducible refine gate_callee (f := 21) rfl ?_); refine goesL_ (some 58) rfl rfl Try.func21 (by kernel_rfl) rfl #[.string ((rdOf ByteArray.empty t182 x6_1).extract ((ji19) : Int).toNat (rdOf ByteArray.empty t182 x6_1).size)] rfl (by (try simp only [List.map_toArray, List.map_cons, List.map_nil]); first | done | (simp only [hji19]; rfl) | rfl | (simp only [List.length_drop, List.length_take]; rfl)) ?_; (with_reducible refine (letterboxref21_number.calls kj4 ((rdOf ByteArray.empty t182 x6_1).extract ((ji19) : Int).toNat (rdOf ByteArray.empty t182 x6_1).size) t191 _ A22.out).mono ?_); rintro e w' ⟨rfl, ⟨nd, rfl⟩⟩; refine ⟨_, rfl, ?_⟩))
                              go_ret2
                              exact ⟨_, by first | rfl | (simp [errW_none, errW_some] <;> rfl) | (simp only [← hji19]; first | rfl | (simp [errW_none, errW_some] <;> rfl)) | (simp [*, errW_none, errW_some] <;> rfl), by first | exact Kd.R_nil _ _ _ _ _ | exact Kd.N_nil _ _ _ _ _ | exact Kd.V_nil _ _ _ _ _ | exact Kd.Q_nil _ _ _ _ _ | exact Kd.S_nil _ _ _ _ _, by repeat (first | (with_reducible first | exact HB.out | apply below_alloc | apply pw_below_drewN | apply below_drew1) | exact HB.out)⟩
                            · rw [if_neg c24] at H
                              have c24b0 : decide (t191 < 0) = false := decide_eq_false c24
                              clear c24
                              by_cases c25 : x5_1.length < 8796093022208
                              · rw [if_pos c25] at H
                                have LMc25 := Aside0.mk c25
                                clear c25
                                obtain ⟨y192, hy192⟩ : ∃ y_ : List (S33), y_ = (x5_1 ++ [(⟨t188, t191⟩ : S33)]) := ⟨_, rfl⟩
                                replace H : (letterboxref21_Parse.l0 kj4 t182 y192 (wrap64 (x6_1 + 1))) = some (r1, r2) := by first | (rw [hy192]; with_reducible exact H) | (have H2_ := (Option.bind_some _ _).symm.trans H; rw [hy192]; with_reducible exact H2_) | (have H2_ := (Option.bind_some _ _).symm.trans H; with_reducible exact H2_) | with_reducible exact H | (rw [hy192]; exact H) | exact H
                                have Ny192 := Aside0.mk hy192
                                clear hy192
                                have H' := Aside0.mk H
                                clear H
                                have p187 : 0 ≤ (x6_1 : Int) := of_decide_eq_true (by first | (with_reducible assumption) | assumption)
                                have q187 : x6_1 < (t182.length : Int) := of_decide_eq_true (by first | (with_reducible assumption) | assumption)
                                obtain ⟨ad187, e187, hx187_0⟩ := Kd.at_string (Kd.R_reads' HO_4.out).2.2 x6_1 p187 q187
                                cases e187
                                replace p187 := eq_true p187
                                replace q187 := eq_true q187
                                go_wp2_with (first | ((with_reducible refine gate_callee (f := 21) rfl ?_); refine goesL_ (some 42) rfl rfl Try.func21 (by kernel_rfl) rfl #[.string ((rdOf ByteArray.empty t182 x6_1).extract 0 (x7_4 : Int).toNat)] rfl (by (try simp only [List.map_toArray, List.map_cons, List.map_nil]); first | done | rfl | (simp only [List.length_drop, List.length_take]; rfl)) ?_; (with_reducible refine (letterboxref21_number.calls kj4 ((rdOf ByteArray.empty t182 x6_1).extract 0 (x7_4 : Int).toNat) t188 _ A17.out).mono ?_); rintro e w' ⟨rfl, ⟨nd, rfl⟩⟩; refine ⟨_, rfl, ?_⟩; have p189 : 0 ≤ (x6_1 : Int) := of_decide_eq_true (by first | (with_reducible assumption) | assumption); have q189 : x6_1 < (t182.length : Int) := of_decide_eq_true (by first | (with_reducible assumption) | assumption); obtain ⟨ad189, e189, hx189_0⟩ := Kd.at_string (Kd.R_reads' HO_4.out).2.2 x6_1 p189 q189; obtain rfl : ad187 = ad189 := (by injection e189); replace p189 := eq_true p189; replace q189 := eq_true q189; have p190 : 0 ≤ (x6_1 : Int) := of_decide_eq_true (by first | (with_reducible assumption) | assumption); have q190 : x6_1 < (t182.length : Int) := of_decide_eq_true (by first | (with_reducible assumption) | assumption); obtain ⟨ad190, e190, hx190_0⟩ := Kd.at_string (Kd.R_reads' HO_4.out).2.2 x6_1 p190 q190; obtain rfl : ad187 = ad190 := (by injection e190); replace p190 := eq_true p190; replace q190 := eq_true q190) | ((with_reducible refine gate_callee (f := 21) rfl ?_); refine goesL_ (some 58) rfl rfl Try.func21 (by kernel_rfl) rfl #[.string ((rdOf ByteArray.empty t182 x6_1).extract ((ji19) : Int).toNat (rdOf ByteArray.empty t182 x6_1).size)] rfl (by (try simp only [List.map_toArray, List.map_cons, List.map_nil]); first | done | (simp only [hji19]; rfl) | rfl | (simp only [List.length_drop, List.length_take]; rfl)) ?_; (with_reducible refine (letterboxref21_number.calls kj4 ((rdOf ByteArray.empty t182 x6_1).extract ((ji19) : Int).toNat (rdOf ByteArray.empty t182 x6_1).size) t191 _ A22.out).mono ?_); rintro e w' ⟨rfl, ⟨nd, rfl⟩⟩; refine ⟨_, rfl, ?_⟩) | ((with_reducible refine gate_builtin (b := .append) (xs := #[.tmp 65, .tmp 69]) rfl ?_); at_builtin; refine Kd.R_append k33 (w0 := w) w.heap.size rfl (.tmp 65) (.tmp 69) 28 33 (.agg #[(.int .i64 0), (.int .i64 0)]) 16 rfl Try.underlying28 info33 rfl (by decide) (by omega) u5 x5_1 (⟨t188, t191⟩ : S33) [.int .i64 t188, .int .i64 t191] (fun _ => True) (fun _ => False) rfl rfl ?aP (fun _ hk => hk.elim) ?aF ?aO ?aB ?aS ?aL ?_; (case aP => exact k33_mkM _ _ _ (⟨t188, t191⟩ : S33)); (case aB => exact (by repeat (first | (with_reducible first | exact HB.out | apply below_alloc | apply pw_below_drewN | apply below_drew1) | exact HB.out))); (case aF => exact (fun _ _ => trivial)); (case aO => exact (by (with_reducible repeat (first | apply Kd.R_alloc | apply Kd.R_drewN | apply Kd.R_drew)); exact HO_5.out)); (case aS => exact (below_size (by repeat (first | (with_reducible first | exact HB.out | apply below_alloc | apply pw_below_drewN | apply below_drew1) | exact HB.out)))); (case aL => have := LMc25.out; omega); intro v193 w26 ho hb hg hat; rw [← Ny192.out] at ho; have n0_ := Aside0.mk (Kd.R_over' (by (with_reducible repeat (first | apply Kd.R_alloc | apply Kd.R_drewN | apply Kd.R_drew)); exact HO_4.out) (Kd.R_typed (by (with_reducible repeat (first | apply Kd.R_alloc | apply Kd.R_drewN | apply Kd.R_drew)); exact HO_5.out)) (by decide) hg); have n1_ := Aside0.mk (hb); have n2_ := Aside0.mk (ho); clear HO_4; clear HB; clear HO_5; have HO_4 := n0_; have HB := n1_; have HO194 := n2_; clear n0_ n1_ n2_; clear ho hb hg hat))
                                go_roundg kj4
                                case measure => have := HK1.out; have := HJ4.out; omega
                                case rel => exact ⟨(y192), (wrap64 (x6_1 + 1)), (by first | rfl | (simp; done) | (simp [*]; done)), H', ⟨by have := HK1.out; have := HJ4.out; omega⟩, ⟨by (with_reducible repeat (first | apply Kd.R_alloc | apply Kd.R_drewN | apply Kd.R_drew)); exact HO_4.out⟩, ⟨by (with_reducible repeat (first | apply Kd.R_alloc | apply Kd.R_drewN | apply Kd.R_drew)); exact HO194.out⟩, ⟨by repeat (first | (with_reducible first | exact HB.out | apply below_alloc | apply pw_below_drewN | apply below_drew1) | exact HB.out)⟩⟩
                              · rw [if_neg c25] at H
                                exact absurd H (by simp)
                        · rw [if_neg c21] at H
                          exact absurd H (by simp)
                      · rw [if_neg c20] at H
                        exact absurd H (by simp)
                    · rw [if_neg c18] at H
                      have c18b0 : decide (x7_4 < ((rdOf ByteArray.empty t182 x6_1).size : Int)) = false := decide_eq_false c18
                      clear c18
                      by_cases c27 : t188 < 0
                      · rw [if_pos c27] at H
                        have c27b0 : decide (t188 < 0) = true := decide_eq_true c27
                        clear c27
                        simp only [Option.some.injEq, Prod.mk.injEq] at H
                        obtain ⟨rfl, rfl⟩ := H
                        have p187 : 0 ≤ (x6_1 : Int) := of_decide_eq_true (by first | (with_reducible assumption) | assumption)
                        have q187 : x6_1 < (t182.length : Int) := of_decide_eq_true (by first | (with_reducible assumption) | assumption)
                        obtain ⟨ad187, e187, hx187_0⟩ := Kd.at_string (Kd.R_reads' HO_4.out).2.2 x6_1 p187 q187
                        cases e187
                        replace p187 := eq_true p187
                        replace q187 := eq_true q187
                        go_wp2_with (first | ((with_reducible refine gate_callee (f := 21) rfl ?_); refine goesL_ (some 42) rfl rfl Try.func21 (by kernel_rfl) rfl #[.string ((rdOf ByteArray.empty t182 x6_1).extract 0 (x7_4 : Int).toNat)] rfl (by (try simp only [List.map_toArray, List.map_cons, List.map_nil]); first | done | rfl | (simp only [List.length_drop, List.length_take]; rfl)) ?_; (with_reducible refine (letterboxref21_number.calls kj4 ((rdOf ByteArray.empty t182 x6_1).extract 0 (x7_4 : Int).toNat) t188 _ A17.out).mono ?_); rintro e w' ⟨rfl, ⟨nd, rfl⟩⟩; refine ⟨_, rfl, ?_⟩; have p189 : 0 ≤ (x6_1 : Int) := of_decide_eq_true (by first | (with_reducible assumption) | assumption); have q189 : x6_1 < (t182.length : Int) := of_decide_eq_true (by first | (with_reducible assumption) | assumption); obtain ⟨ad189, e189, hx189_0⟩ := Kd.at_string (Kd.R_reads' HO_4.out).2.2 x6_1 p189 q189; obtain rfl : ad187 = ad189 := (by injection e189); replace p189 := eq_true p189; replace q189 := eq_true q189))
                        go_ret2
                        exact ⟨_, by first | rfl | (simp [errW_none, errW_some] <;> rfl) | (simp [*, errW_none, errW_some] <;> rfl), by first | exact Kd.R_nil _ _ _ _ _ | exact Kd.N_nil _ _ _ _ _ | exact Kd.V_nil _ _ _ _ _ | exact Kd.Q_nil _ _ _ _ _ | exact Kd.S_nil _ _ _ _ _, by repeat (first | (with_reducible first | exact HB.out | apply below_alloc | apply pw_below_drewN | apply below_drew1) | exact HB.out)⟩
                      · rw [if_neg c27] at H
                        have c27b0 : decide (t188 < 0) = false := decide_eq_false c27
                        clear c27
                        by_cases c28 : x5_1.length < 8796093022208
                        · rw [if_pos c28] at H
                          have LMc28 := Aside0.mk c28
                          clear c28
                          obtain ⟨y195, hy195⟩ : ∃ y_ : List (S33), y_ = (x5_1 ++ [(⟨t188, t188⟩ : S33)]) := ⟨_, rfl⟩
                          replace H : (letterboxref21_Parse.l0 kj4 t182 y195 (wrap64 (x6_1 + 1))) = some (r1, r2) := by first | (rw [hy195]; with_reducible exact H) | (have H2_ := (Option.bind_some _ _).symm.trans H; rw [hy195]; with_reducible exact H2_) | (have H2_ := (Option.bind_some _ _).symm.trans H; with_reducible exact H2_) | with_reducible exact H | (rw [hy195]; exact H) | exact H
                          have Ny195 := Aside0.mk hy195
                          clear hy195
                          have H' := Aside0.mk H
                          clear H
                          have p187 : 0 ≤ (x6_1 : Int) := of_decide_eq_true (by first | (with_reducible assumption) | assumption)
                          have q187 : x6_1 < (t182.length : Int) := of_decide_eq_true (by first | (with_reducible assumption) | assumption)
                          obtain ⟨ad187, e187, hx187_0⟩ := Kd.at_string (Kd.R_reads' HO_4.out).2.2 x6_1 p187 q187
                          cases e187
                          replace p187 := eq_true p187
                          replace q187 := eq_true q187
                          go_wp2_with (first | ((with_reducible refine gate_callee (f := 21) rfl ?_); refine goesL_ (some 42) rfl rfl Try.func21 (by kernel_rfl) rfl #[.string ((rdOf ByteArray.empty t182 x6_1).extract 0 (x7_4 : Int).toNat)] rfl (by (try simp only [List.map_toArray, List.map_cons, List.map_nil]); first | done | rfl | (simp only [List.length_drop, List.length_take]; rfl)) ?_; (with_reducible refine (letterboxref21_number.calls kj4 ((rdOf ByteArray.empty t182 x6_1).extract 0 (x7_4 : Int).toNat) t188 _ A17.out).mono ?_); rintro e w' ⟨rfl, ⟨nd, rfl⟩⟩; refine ⟨_, rfl, ?_⟩; have p189 : 0 ≤ (x6_1 : Int) := of_decide_eq_true (by first | (with_reducible assumption) | assumption); have q189 : x6_1 < (t182.length : Int) := of_decide_eq_true (by first | (with_reducible assumption) | assumption); obtain ⟨ad189, e189, hx189_0⟩ := Kd.at_string (Kd.R_reads' HO_4.out).2.2 x6_1 p189 q189; obtain rfl : ad187 = ad189 := (by injection e189); replace p189 := eq_true p189; replace q189 := eq_true q189) | ((with_reducible refine gate_builtin (b := .append) (xs := #[.tmp 65, .tmp 69]) rfl ?_); at_builtin; refine Kd.R_append k33 (w0 := w) w.heap.size rfl (.tmp 65) (.tmp 69) 28 33 (.agg #[(.int .i64 0), (.int .i64 0)]) 16 rfl Try.underlying28 info33 rfl (by decide) (by omega) u5 x5_1 (⟨t188, t188⟩ : S33) [.int .i64 t188, .int .i64 t188] (fun _ => True) (fun _ => False) rfl rfl ?aP (fun _ hk => hk.elim) ?aF ?aO ?aB ?aS ?aL ?_; (case aP => exact k33_mkM _ _ _ (⟨t188, t188⟩ : S33)); (case aB => exact (by repeat (first | (with_reducible first | exact HB.out | apply below_alloc | apply pw_below_drewN | apply below_drew1) | exact HB.out))); (case aF => exact (fun _ _ => trivial)); (case aO => exact (by (with_reducible repeat (first | apply Kd.R_alloc | apply Kd.R_drewN | apply Kd.R_drew)); exact HO_5.out)); (case aS => exact (below_size (by repeat (first | (with_reducible first | exact HB.out | apply below_alloc | apply pw_below_drewN | apply below_drew1) | exact HB.out)))); (case aL => have := LMc28.out; omega); intro v196 w29 ho hb hg hat; rw [← Ny195.out] at ho; have n0_ := Aside0.mk (Kd.R_over' (by (with_reducible repeat (first | apply Kd.R_alloc | apply Kd.R_drewN | apply Kd.R_drew)); exact HO_4.out) (Kd.R_typed (by (with_reducible repeat (first | apply Kd.R_alloc | apply Kd.R_drewN | apply Kd.R_drew)); exact HO_5.out)) (by decide) hg); have n1_ := Aside0.mk (hb); have n2_ := Aside0.mk (ho); clear HO_4; clear HB; clear HO_5; have HO_4 := n0_; have HB := n1_; have HO197 := n2_; clear n0_ n1_ n2_; clear ho hb hg hat))
                          go_roundg kj4
                          case measure => have := HK1.out; have := HJ4.out; omega
                          case rel => exact ⟨(y195), (wrap64 (x6_1 + 1)), (by first | rfl | (simp; done) | (simp [*]; done)), H', ⟨by have := HK1.out; have := HJ4.out; omega⟩, ⟨by (with_reducible repeat (first | apply Kd.R_alloc | apply Kd.R_drewN | apply Kd.R_drew)); exact HO_4.out⟩, ⟨by (with_reducible repeat (first | apply Kd.R_alloc | apply Kd.R_drewN | apply Kd.R_drew)); exact HO197.out⟩, ⟨by repeat (first | (with_reducible first | exact HB.out | apply below_alloc | apply pw_below_drewN | apply below_drew1) | exact HB.out)⟩⟩
                        · rw [if_neg c28] at H
                          exact absurd H (by simp)
                  · rw [if_neg c16] at H
                    exact absurd H (by simp)
                · rw [if_neg c15] at H
                  exact absurd H (by simp)
              · rw [if_neg c14] at H
                exact absurd H (by simp)
            · rw [if_neg c13] at H
              exact absurd H (by simp)
      · rw [if_neg c4] at H
        have c4b0 : decide (x6_1 < (t182.length : Int)) = false := decide_eq_false c4
        clear c4
        by_cases c30 : (x5_1.length : Int) > 1000
        · rw [if_pos c30] at H
          have c30b0 : decide (1000 < (x5_1.length : Int)) = true := decide_eq_true c30
          have c30b1 : decide (1000 < x5_1.length) = true := decide_eq_true (by omega)
          clear c30
          simp only [Option.some.injEq, Prod.mk.injEq] at H
          obtain ⟨rfl, rfl⟩ := H
          obtain ⟨Ao31, co31, eo31⟩ := Kd.R_slice HO_4.out
          subst eo31
          obtain ⟨Ao32, co32, eo32⟩ := Kd.R_slice HO_5.out
          subst eo32
          go_wp2
          go_ret2
          exact ⟨_, by first | rfl | (simp [errW_none, errW_some] <;> rfl) | (simp [*, errW_none, errW_some] <;> rfl), by first | exact Kd.R_nil _ _ _ _ _ | exact Kd.N_nil _ _ _ _ _ | exact Kd.V_nil _ _ _ _ _ | exact Kd.Q_nil _ _ _ _ _ | exact Kd.S_nil _ _ _ _ _, by repeat (first | (with_reducible first | exact HB.out | apply below_alloc | apply pw_below_drewN | apply below_drew1) | exact HB.out)⟩
        · rw [if_neg c30] at H
          have c30b0 : decide (1000 < (x5_1.length : Int)) = false := decide_eq_false c30
          have c30b1 : decide (1000 < x5_1.length) = false := decide_eq_false (by omega)
          clear c30
          simp only [Option.some.injEq, Prod.mk.injEq] at H
          obtain ⟨rfl, rfl⟩ := H
          obtain ⟨Ao33, co33, eo33⟩ := Kd.R_slice HO_4.out
          subst eo33
          obtain ⟨Ao34, co34, eo34⟩ := Kd.R_slice HO_5.out
          subst eo34
          go_wp2
          go_ret2
          exact ⟨_, by first | rfl | (simp [errW_none, errW_some] <;> rfl) | (simp [*, errW_none, errW_some] <;> rfl), by (with_reducible repeat (first | apply Kd.R_alloc | apply Kd.R_drewN | apply Kd.R_drew)); exact HO_5.out, by repeat (first | (with_reducible first | exact HB.out | apply below_alloc | apply pw_below_drewN | apply below_drew1) | exact HB.out)⟩

-- NOT PRINTED: function 33 (seqset_Range_33)

-- NOT PRINTED: function 23 (seqset_Range_23)

/-! ### seqset_Has: function 10 -/
def seqset_Has.f (l0 : List S32) (a1 : Int) (a2 : Int) : Option Bool := if l0.length ≤ 100000 then some (sq_has l0 a1 a2) else none
theorem seqset_Has.calls (A0 : Option Addr) (c0 : Nat) (l0 : List S32) (a1 : Int) (a2 : Int) (r : Bool) (w : World) (hr0 : Kd.C k32 w A0 l0.length l0) (hc0 : l0.length ≤ c0) (h : seqset_Has.f l0 a1 a2 = some r) :
    Calls Try.prog 10 #[.slice A0 l0.length c0, .int .i64 a1, .int .i64 a2] w fun e w' => e = .returned (.bool r) ∧ Below w.heap.size w w' := by
  unfold seqset_Has.f at h
  by_cases hl : l0.length ≤ 100000
  · rw [if_pos hl] at h
    obtain rfl := Option.some.inj h
    exact sq_Has A0 c0 l0 a1 a2 w hr0 hl
  · rw [if_neg hl] at h
    exact absurd h (by simp)

/-! ### letterboxref21_Has: function 11 -/
mutual
def letterboxref21_Has.l0 : Nat → List (S33) → Int → Int → Int → Option (Bool)
  | 0, _, _, _, _ => none
  | k + 1, x0, x1, x2, x7 => if x7 < (x0.length : Int) then (if 0 ≤ x7 then (if ((rd_T33 x0 x7).f0) < 1 then (letterboxref21_Has.j1 k x0 x1 x2 x7 x2 ((rd_T33 x0 x7).f1)) else (letterboxref21_Has.j1 k x0 x1 x2 x7 ((rd_T33 x0 x7).f0) ((rd_T33 x0 x7).f1))) else (none)) else (some false)
def letterboxref21_Has.j1 : Nat → List (S33) → Int → Int → Int → Int → Int → Option (Bool)
  | 0, _, _, _, _, _, _ => none
  | k + 1, x0, x1, x2, x7, x8, x9 => if x9 < 1 then (if x8 ≤ x1 then (if x1 ≤ x2 then (some true) else (if x2 ≤ x1 then (if x1 ≤ x8 then (some true) else (letterboxref21_Has.l0 k x0 x1 x2 (wrap64 (x7 + 1)))) else (letterboxref21_Has.l0 k x0 x1 x2 (wrap64 (x7 + 1))))) else (if x2 ≤ x1 then (if x1 ≤ x8 then (some true) else (letterboxref21_Has.l0 k x0 x1 x2 (wrap64 (x7 + 1)))) else (letterboxref21_Has.l0 k x0 x1 x2 (wrap64 (x7 + 1))))) else (if x8 ≤ x1 then (if x1 ≤ x9 then (some true) else (if x9 ≤ x1 then (if x1 ≤ x8 then (some true) else (letterboxref21_Has.l0 k x0 x1 x2 (wrap64 (x7 + 1)))) else (letterboxref21_Has.l0 k x0 x1 x2 (wrap64 (x7 + 1))))) else (if x9 ≤ x1 then (if x1 ≤ x8 then (some true) else (letterboxref21_Has.l0 k x0 x1 x2 (wrap64 (x7 + 1)))) else (letterboxref21_Has.l0 k x0 x1 x2 (wrap64 (x7 + 1)))))
end
def letterboxref21_Has.f (k : Nat) (l0 : List (S33)) (a1 : Int) (a2 : Int) : Option (Bool) := letterboxref21_Has.l0 k l0 a1 a2 0
theorem letterboxref21_Has.mono_l : ∀ k, (∀ y0 y1 y2 y3, LeO (letterboxref21_Has.l0 k y0 y1 y2 y3) (letterboxref21_Has.l0 (k + 1) y0 y1 y2 y3)) ∧ (∀ y0 y1 y2 y3 y4 y5, LeO (letterboxref21_Has.j1 k y0 y1 y2 y3 y4 y5) (letterboxref21_Has.j1 (k + 1) y0 y1 y2 y3 y4 y5))
  | 0 => ⟨fun _ _ _ _ r h => by simp [letterboxref21_Has.l0] at h, fun _ _ _ _ _ _ r h => by simp [letterboxref21_Has.j1] at h⟩
  | k + 1 => by
    obtain ⟨ih0, ih1⟩ := letterboxref21_Has.mono_l k
    refine ⟨?_, ?_⟩
    · intro y0 y1 y2 y3
      unfold letterboxref21_Has.l0
      repeat' first
      | (with_reducible exact ih0 _ _ _ _)
      | (with_reducible exact ih1 _ _ _ _ _ _)
      | (with_reducible exact LeO.refl _)
      | (with_reducible exact LeO.none _)
      | (with_reducible refine LeO.ite ?_ ?_)
      | (with_reducible refine LeO.bind ?_ (fun _ => ?_))
      | exact ih0 _ _ _ _
      | exact ih1 _ _ _ _ _ _
      | exact LeO.none _
      | refine LeO.ite ?_ ?_
      | refine LeO.bind ?_ (fun _ => ?_)
    · intro y0 y1 y2 y3 y4 y5
      unfold letterboxref21_Has.j1
      repeat' first
      | (with_reducible exact ih0 _ _ _ _)
      | (with_reducible exact ih1 _ _ _ _ _ _)
      | (with_reducible exact LeO.refl _)
      | (with_reducible exact LeO.none _)
      | (with_reducible refine LeO.ite ?_ ?_)
      | (with_reducible refine LeO.bind ?_ (fun _ => ?_))
      | exact ih0 _ _ _ _
      | exact ih1 _ _ _ _ _ _
      | exact LeO.none _
      | refine LeO.ite ?_ ?_
      | refine LeO.bind ?_ (fun _ => ?_)
theorem letterboxref21_Has.mono : ∀ a0 a1 a2 k, LeO (letterboxref21_Has.f k a0 a1 a2) (letterboxref21_Has.f (k + 1) a0 a1 a2) := by
  intro a0 a1 a2 k
  obtain ⟨ih0, ih1⟩ := letterboxref21_Has.mono_l k
  unfold letterboxref21_Has.f
  repeat' first
      | (with_reducible exact ih0 _ _ _ _)
      | (with_reducible exact ih1 _ _ _ _ _ _)
      | (with_reducible exact LeO.refl _)
      | (with_reducible exact LeO.none _)
      | (with_reducible refine LeO.ite ?_ ?_)
      | (with_reducible refine LeO.bind ?_ (fun _ => ?_))
      | exact ih0 _ _ _ _
      | exact ih1 _ _ _ _ _ _
      | exact LeO.none _
      | refine LeO.ite ?_ ?_
      | refine LeO.bind ?_ (fun _ => ?_)
set_option maxHeartbeats 8000000 in
set_option maxRecDepth 100000 in
theorem letterboxref21_Has.calls (k : Nat) (A0 : Option Addr) (c0 : Nat) (l0 : List (S33)) (a1 : Int) (a2 : Int) (r : Bool) (w : World) (hr0 : Kd.C k33 w A0 l0.length l0) (hc0 : l0.length ≤ c0) (h : letterboxref21_Has.f k l0 a1 a2 = some r) :
    Calls Try.prog 11 #[.slice A0 l0.length c0, .int .i64 a1, .int .i64 a2] w fun e w' => e = .returned (.bool r) ∧ Drawn0 w w' := by
  have HR0 := Aside0.mk hr0
  have HC0 := Aside0.mk hc0
  clear hr0 hc0
  have H : (letterboxref21_Has.l0 k l0 a1 a2 0) = some r := h
  clear h
  have H' := Aside0.mk H
  clear H
  go_enter Try.func11, Try.ntmps11
  go_wp2
  go_loopg [7] k (fun kq v7 w' => ∃ (x7_1 : Int), v7 = .int .i64 x7_1 ∧ Aside0 (letterboxref21_Has.l0 kq l0 a1 a2 x7_1 = some r) ∧ Aside0 (kq ≤ k) ∧ Drawn0 w w')
  case atStart => exact ⟨(0), (by first | rfl | (simp; done) | (simp [*]; done)), H', ⟨Nat.le_refl _⟩, by repeat (first | exact Drawn0.refl _ | apply Drawn0.step)⟩
  case round =>
    clear H'
    try clear c1
    try clear p2
    obtain ⟨x7_1, rfl, HA, HK1, ⟨m1, rfl⟩⟩ := hrel
    cases gk with
    | zero => exact absurd HA.out (by simp [letterboxref21_Has.l0])
    | succ k1 =>
      have H := HA.out
      clear HA
      simp only [letterboxref21_Has.l0] at H
      by_cases c4 : x7_1 < (l0.length : Int)
      · rw [if_pos c4] at H
        have c4b0 : decide (x7_1 < (l0.length : Int)) = true := decide_eq_true c4
        clear c4
        by_cases c5 : 0 ≤ x7_1
        · rw [if_pos c5] at H
          have c5b0 : decide (0 ≤ x7_1) = true := decide_eq_true c5
          clear c5
          have HC6 := Aside0.mk H
          clear H
          have p198 : 0 ≤ (x7_1 : Int) := of_decide_eq_true (by first | (with_reducible assumption) | assumption)
          have q198 : x7_1 < (l0.length : Int) := of_decide_eq_true (by first | (with_reducible assumption) | assumption)
          obtain ⟨ad198, e198, hx198_0, hx198_1⟩ := at_T33 HR0.out x7_1 p198 q198
          cases e198
          replace p198 := eq_true p198
          replace q198 := eq_true q198
          have p199 : 0 ≤ (x7_1 : Int) := of_decide_eq_true (by first | (with_reducible assumption) | assumption)
          have q199 : x7_1 < (l0.length : Int) := of_decide_eq_true (by first | (with_reducible assumption) | assumption)
          obtain ⟨ad199, e199, hx199_0, hx199_1⟩ := at_T33 HR0.out x7_1 p199 q199
          obtain rfl : ad198 = ad199 := (by injection e199)
          replace p199 := eq_true p199
          replace q199 := eq_true q199
          go_upto_if 27 with (fail)
          go_cut [8] (fun v8 wc => ∃ (kq : Nat) (x8_5 : Int), v8 = .int .i64 x8_5 ∧ Aside0 (letterboxref21_Has.j1 kq l0 a1 a2 x7_1 x8_5 ((rd_T33 l0 x7_1).f1) = some r) ∧ Aside0 (kq ≤ k1) ∧ Drawn0 w wc)
          case first =>
            have H := HC6.out
            clear HC6
            by_cases c7 : ((rd_T33 l0 x7_1).f0) < 1
            · rw [if_pos c7] at H
              have c7b0 : decide (((rd_T33 l0 x7_1).f0) < 1) = true := decide_eq_true c7
              clear c7
              (first | rw [c7b0] | (simp only [i64_w, i32_w]; rw [c7b0]) | skip)
              have H' := Aside0.mk H
              clear H
              go_wp2
              go_meet
              case rel => exact ⟨_, (a2), (by first | rfl | (simp; done) | (simp [*]; done)), H', ⟨by have := HK1.out; first | omega | exact Nat.le_refl _⟩, by repeat (first | exact Drawn0.refl _ | apply Drawn0.step)⟩
            · rw [if_neg c7] at H
              have c7b0 : decide (((rd_T33 l0 x7_1).f0) < 1) = false := decide_eq_false c7
              clear c7
              (first | rw [c7b0] | (simp only [i64_w, i32_w]; rw [c7b0]) | skip)
              have H' := Aside0.mk H
              clear H
              go_wp2
              go_meet
              case rel => exact ⟨_, ((rd_T33 l0 x7_1).f0), (by first | rfl | (simp; done) | (simp [*]; done)), H', ⟨by have := HK1.out; first | omega | exact Nat.le_refl _⟩, by repeat (first | exact Drawn0.refl _ | apply Drawn0.step)⟩
          case rest =>
            clear HC6
            try clear c1
            try clear p1
            try clear q1
            try clear hx1
            try clear p2
            try clear c4
            try clear c4b0
            try clear c5
            try clear c5b0
            try clear c7
            try clear c7b0
            try clear hx198_0
            try clear hx198_1
            try clear hx199_0
            try clear hx199_1
            try clear p198
            try clear p199
            try clear p2
            try clear q198
            try clear q199
            obtain ⟨kq, x8_5, rfl, HA, HJ5, ⟨mc5, rfl⟩⟩ := hcut
            cases kq with
            | zero => exact absurd HA.out (by simp [letterboxref21_Has.j1])
            | succ kj5 =>
              have H := HA.out
              clear HA
              simp only [letterboxref21_Has.j1] at H
              by_cases c8 : ((rd_T33 l0 x7_1).f1) < 1
              · rw [if_pos c8] at H
                have c8b0 : decide (((rd_T33 l0 x7_1).f1) < 1) = true := decide_eq_true c8
                clear c8
                by_cases c9 : x8_5 ≤ a1
                · rw [if_pos c9] at H
                  have c9b0 : decide (x8_5 ≤ a1) = true := decide_eq_true c9
                  clear c9
                  by_cases c10 : a1 ≤ a2
                  · rw [if_pos c10] at H
                    have c10b0 : decide (a1 ≤ a2) = true := decide_eq_true c10
                    clear c10
                    obtain rfl := Option.some.inj H
                    go_wp2
                    go_ret
                    exact ⟨by first | rfl | (simp; done) | (simp [*]; done), by repeat (first | exact Drawn0.refl _ | apply Drawn0.step)⟩
                  · rw [if_neg c10] at H
                    have c10b0 : decide (a1 ≤ a2) = false := decide_eq_false c10
                    clear c10
                    by_cases c11 : a2 ≤ a1
                    · rw [if_pos c11] at H
                      have c11b0 : decide (a2 ≤ a1) = true := decide_eq_true c11
                      clear c11
                      by_cases c12 : a1 ≤ x8_5
                      · rw [if_pos c12] at H
                        have c12b0 : decide (a1 ≤ x8_5) = true := decide_eq_true c12
                        clear c12
                        obtain rfl := Option.some.inj H
                        go_wp2
                        go_ret
                        exact ⟨by first | rfl | (simp; done) | (simp [*]; done), by repeat (first | exact Drawn0.refl _ | apply Drawn0.step)⟩
                      · rw [if_neg c12] at H
                        have c12b0 : decide (a1 ≤ x8_5) = false := decide_eq_false c12
                        clear c12
                        have H' := Aside0.mk H
                        clear H
                        go_wp2
                        go_roundg kj5
                        case measure => have := HK1.out; have := HJ5.out; omega
                        case rel => exact ⟨(wrap64 (x7_1 + 1)), (by first | rfl | (simp; done) | (simp [*]; done)), H', ⟨by have := HK1.out; have := HJ5.out; omega⟩, by repeat (first | exact Drawn0.refl _ | apply Drawn0.step)⟩
                    · rw [if_neg c11] at H
                      have c11b0 : decide (a2 ≤ a1) = false := decide_eq_false c11
                      clear c11
                      have H' := Aside0.mk H
                      clear H
                      go_wp2
                      go_roundg kj5
                      case measure => have := HK1.out; have := HJ5.out; omega
                      case rel => exact ⟨(wrap64 (x7_1 + 1)), (by first | rfl | (simp; done) | (simp [*]; done)), H', ⟨by have := HK1.out; have := HJ5.out; omega⟩, by repeat (first | exact Drawn0.refl _ | apply Drawn0.step)⟩
                · rw [if_neg c9] at H
                  have c9b0 : decide (x8_5 ≤ a1) = false := decide_eq_false c9
                  clear c9
                  by_cases c13 : a2 ≤ a1
                  · rw [if_pos c13] at H
                    have c13b0 : decide (a2 ≤ a1) = true := decide_eq_true c13
                    clear c13
                    by_cases c14 : a1 ≤ x8_5
                    · rw [if_pos c14] at H
                      have c14b0 : decide (a1 ≤ x8_5) = true := decide_eq_true c14
                      clear c14
                      obtain rfl := Option.some.inj H
                      go_wp2
                      go_ret
                      exact ⟨by first | rfl | (simp; done) | (simp [*]; done), by repeat (first | exact Drawn0.refl _ | apply Drawn0.step)⟩
                    · rw [if_neg c14] at H
                      have c14b0 : decide (a1 ≤ x8_5) = false := decide_eq_false c14
                      clear c14
                      have H' := Aside0.mk H
                      clear H
                      go_wp2
                      go_roundg kj5
                      case measure => have := HK1.out; have := HJ5.out; omega
                      case rel => exact ⟨(wrap64 (x7_1 + 1)), (by first | rfl | (simp; done) | (simp [*]; done)), H', ⟨by have := HK1.out; have := HJ5.out; omega⟩, by repeat (first | exact Drawn0.refl _ | apply Drawn0.step)⟩
                  · rw [if_neg c13] at H
                    have c13b0 : decide (a2 ≤ a1) = false := decide_eq_false c13
                    clear c13
                    have H' := Aside0.mk H
                    clear H
                    go_wp2
                    go_roundg kj5
                    case measure => have := HK1.out; have := HJ5.out; omega
                    case rel => exact ⟨(wrap64 (x7_1 + 1)), (by first | rfl | (simp; done) | (simp [*]; done)), H', ⟨by have := HK1.out; have := HJ5.out; omega⟩, by repeat (first | exact Drawn0.refl _ | apply Drawn0.step)⟩
              · rw [if_neg c8] at H
                have c8b0 : decide (((rd_T33 l0 x7_1).f1) < 1) = false := decide_eq_false c8
                clear c8
                by_cases c15 : x8_5 ≤ a1
                · rw [if_pos c15] at H
                  have c15b0 : decide (x8_5 ≤ a1) = true := decide_eq_true c15
                  clear c15
                  by_cases c16 : a1 ≤ ((rd_T33 l0 x7_1).f1)
                  · rw [if_pos c16] at H
                    have c16b0 : decide (a1 ≤ ((rd_T33 l0 x7_1).f1)) = true := decide_eq_true c16
                    clear c16
                    obtain rfl := Option.some.inj H
                    go_wp2
                    go_ret
                    exact ⟨by first | rfl | (simp; done) | (simp [*]; done), by repeat (first | exact Drawn0.refl _ | apply Drawn0.step)⟩
                  · rw [if_neg c16] at H
                    have c16b0 : decide (a1 ≤ ((rd_T33 l0 x7_1).f1)) = false := decide_eq_false c16
                    clear c16
                    by_cases c17 : ((rd_T33 l0 x7_1).f1) ≤ a1
                    · rw [if_pos c17] at H
                      have c17b0 : decide (((rd_T33 l0 x7_1).f1) ≤ a1) = true := decide_eq_true c17
                      clear c17
                      by_cases c18 : a1 ≤ x8_5
                      · rw [if_pos c18] at H
                        have c18b0 : decide (a1 ≤ x8_5) = true := decide_eq_true c18
                        clear c18
                        obtain rfl := Option.some.inj H
                        go_wp2
                        go_ret
                        exact ⟨by first | rfl | (simp; done) | (simp [*]; done), by repeat (first | exact Drawn0.refl _ | apply Drawn0.step)⟩
                      · rw [if_neg c18] at H
                        have c18b0 : decide (a1 ≤ x8_5) = false := decide_eq_false c18
                        clear c18
                        have H' := Aside0.mk H
                        clear H
                        go_wp2
                        go_roundg kj5
                        case measure => have := HK1.out; have := HJ5.out; omega
                        case rel => exact ⟨(wrap64 (x7_1 + 1)), (by first | rfl | (simp; done) | (simp [*]; done)), H', ⟨by have := HK1.out; have := HJ5.out; omega⟩, by repeat (first | exact Drawn0.refl _ | apply Drawn0.step)⟩
                    · rw [if_neg c17] at H
                      have c17b0 : decide (((rd_T33 l0 x7_1).f1) ≤ a1) = false := decide_eq_false c17
                      clear c17
                      have H' := Aside0.mk H
                      clear H
                      go_wp2
                      go_roundg kj5
                      case measure => have := HK1.out; have := HJ5.out; omega
                      case rel => exact ⟨(wrap64 (x7_1 + 1)), (by first | rfl | (simp; done) | (simp [*]; done)), H', ⟨by have := HK1.out; have := HJ5.out; omega⟩, by repeat (first | exact Drawn0.refl _ | apply Drawn0.step)⟩
                · rw [if_neg c15] at H
                  have c15b0 : decide (x8_5 ≤ a1) = false := decide_eq_false c15
                  clear c15
                  by_cases c19 : ((rd_T33 l0 x7_1).f1) ≤ a1
                  · rw [if_pos c19] at H
                    have c19b0 : decide (((rd_T33 l0 x7_1).f1) ≤ a1) = true := decide_eq_true c19
                    clear c19
                    by_cases c20 : a1 ≤ x8_5
                    · rw [if_pos c20] at H
                      have c20b0 : decide (a1 ≤ x8_5) = true := decide_eq_true c20
                      clear c20
                      obtain rfl := Option.some.inj H
                      go_wp2
                      go_ret
                      exact ⟨by first | rfl | (simp; done) | (simp [*]; done), by repeat (first | exact Drawn0.refl _ | apply Drawn0.step)⟩
                    · rw [if_neg c20] at H
                      have c20b0 : decide (a1 ≤ x8_5) = false := decide_eq_false c20
                      clear c20
                      have H' := Aside0.mk H
                      clear H
                      go_wp2
                      go_roundg kj5
                      case measure => have := HK1.out; have := HJ5.out; omega
                      case rel => exact ⟨(wrap64 (x7_1 + 1)), (by first | rfl | (simp; done) | (simp [*]; done)), H', ⟨by have := HK1.out; have := HJ5.out; omega⟩, by repeat (first | exact Drawn0.refl _ | apply Drawn0.step)⟩
                  · rw [if_neg c19] at H
                    have c19b0 : decide (((rd_T33 l0 x7_1).f1) ≤ a1) = false := decide_eq_false c19
                    clear c19
                    have H' := Aside0.mk H
                    clear H
                    go_wp2
                    go_roundg kj5
                    case measure => have := HK1.out; have := HJ5.out; omega
                    case rel => exact ⟨(wrap64 (x7_1 + 1)), (by first | rfl | (simp; done) | (simp [*]; done)), H', ⟨by have := HK1.out; have := HJ5.out; omega⟩, by repeat (first | exact Drawn0.refl _ | apply Drawn0.step)⟩
        · rw [if_neg c5] at H
          exact absurd H (by simp)
      · rw [if_neg c4] at H
        have c4b0 : decide (x7_1 < (l0.length : Int)) = false := decide_eq_false c4
        clear c4
        obtain rfl := Option.some.inj H
        go_wp2
        go_ret
        exact ⟨by first | rfl | (simp; done) | (simp [*]; done), by repeat (first | exact Drawn0.refl _ | apply Drawn0.step)⟩

end Go.Proofs.Ytimnfkmjdnmdeaa.P
