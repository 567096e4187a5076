-- Written by a program of this session (wip/tools/mk.sh) for this claim: it runs the kit's print with contracts of our own. Lean checks it.
import Derived.Test.YtnmojlolgioijaaDoorPx0
import Derived.Test.YtnmojlolgioijaaDoorPx1
namespace Go.Proofs.YtnmojlolgioijaaDoor.P
open Go.RowKit Go.Proofs.YtnmojlolgioijaaDoorW.PrintWords Go.Proofs.YtnmojlolgioijaaDoorW.PrintLast Go.Proofs.YtnmojlolgioijaaDoorW.PrintMore
attribute [-simp] Int.tmod_tmod_of_dvd
attribute [local go_sem] max2_int min2_int max_two min_two max_three min_three max_four min_four   -- for this text's walks alone
set_option linter.unusedVariables false
set_option linter.unusedSimpArgs false

/-! ### b64_decode: function 17 -/
mutual
def b64_decode.j1 : Nat → List Int → Int → Option (List Int × Bool)
  | 0, _, _ => none
  | k + 1, x0, x6 => b64_decode.l1 k x0 x6 0 0
def b64_decode.l1 : Nat → List Int → Int → Int → Int → Option (List Int × Bool)
  | 0, _, _, _, _ => none
  | k + 1, x0, x6, x7, x26 => if x26 < 4 then (if x26 ≥ x6 then (b64_decode.l1 k x0 x6 (wrap64 (x7 * 64)) (wrap64 (x26 + 1))) else (if 0 ≤ x26 then (if x26 < (x0.length : Int) then ((b64_value.f k (rd x0 x26)).bind fun t113 => (if t113 < 0 then (some (([] : List Int), false)) else (b64_decode.l1 k x0 x6 (Go.bits .or .i64 (wrap64 (x7 * 64)) t113) (wrap64 (x26 + 1))))) else (none)) else (none))) else ((some (([(x7 / 65536) % 256, (x7 / 256) % 256, (x7) % 256] : List Int) : List Int)).bind fun y106 => (if 0 ≤ (wrap64 (8 * (wrap64 (4 - x6)))) then (if (Go.bits .and .i64 x7 (wrap64 ((shl .i64 1 (wrap64 (8 * (wrap64 (4 - x6))))) - 1))) = 0 then (if 0 ≤ (wrap64 (x6 - 1)) then (if (wrap64 (x6 - 1)) ≤ (y106.length : Int) then (some ((y106.take ((wrap64 (x6 - 1)) : Int).toNat), true)) else (none)) else (none)) else (some (([] : List Int), false))) else (none)))
def b64_decode.l0 : Nat → List Int → Bool → Int → Option (List Int × Bool)
  | 0, _, _, _ => none
  | k + 1, x0, x1, x6 => if x1 = true then (if x6 > 2 then (if 0 ≤ (wrap64 (x6 - 1)) then (if (wrap64 (x6 - 1)) < (x0.length : Int) then (if (rd x0 (wrap64 (x6 - 1))) = 61 then (b64_decode.l0 k x0 x1 (wrap64 (x6 - 1))) else (b64_decode.j1 k x0 x6)) else (none)) else (none)) else (b64_decode.j1 k x0 x6)) else (b64_decode.j1 k x0 x6)
end
def b64_decode.f (k : Nat) (l0 : List Int) (a1 : Bool) : Option (List Int × Bool) := b64_decode.l0 k l0 a1 4
theorem b64_decode.mono_l : ∀ k, (∀ y0 y1, LeO (b64_decode.j1 k y0 y1) (b64_decode.j1 (k + 1) y0 y1)) ∧ (∀ y0 y1 y2 y3, LeO (b64_decode.l1 k y0 y1 y2 y3) (b64_decode.l1 (k + 1) y0 y1 y2 y3)) ∧ (∀ y0 y1 y2, LeO (b64_decode.l0 k y0 y1 y2) (b64_decode.l0 (k + 1) y0 y1 y2))
  | 0 => ⟨fun _ _ r h => by simp [b64_decode.j1] at h, fun _ _ _ _ r h => by simp [b64_decode.l1] at h, fun _ _ _ r h => by simp [b64_decode.l0] at h⟩
  | k + 1 => by
    obtain ⟨ih0, ih1, ih2⟩ := b64_decode.mono_l k
    refine ⟨?_, ?_, ?_⟩
    · intro y0 y1
      unfold b64_decode.j1
      repeat' first
      | (with_reducible exact ih0 _ _)
      | (with_reducible exact ih1 _ _ _ _)
      | (with_reducible exact ih2 _ _ _)
      | (with_reducible exact b64_value.mono _ _)
      | (with_reducible exact LeO.refl _)
      | (with_reducible exact LeO.none _)
      | (with_reducible refine LeO.ite ?_ ?_)
      | (with_reducible refine LeO.bind ?_ (fun _ => ?_))
      | exact ih0 _ _
      | exact ih1 _ _ _ _
      | exact ih2 _ _ _
      | exact b64_value.mono _ _
      | exact LeO.none _
      | refine LeO.ite ?_ ?_
      | refine LeO.bind ?_ (fun _ => ?_)
    · intro y0 y1 y2 y3
      unfold b64_decode.l1
      repeat' first
      | (with_reducible exact ih0 _ _)
      | (with_reducible exact ih1 _ _ _ _)
      | (with_reducible exact ih2 _ _ _)
      | (with_reducible exact b64_value.mono _ _)
      | (with_reducible exact LeO.refl _)
      | (with_reducible exact LeO.none _)
      | (with_reducible refine LeO.ite ?_ ?_)
      | (with_reducible refine LeO.bind ?_ (fun _ => ?_))
      | exact ih0 _ _
      | exact ih1 _ _ _ _
      | exact ih2 _ _ _
      | exact b64_value.mono _ _
      | exact LeO.none _
      | refine LeO.ite ?_ ?_
      | refine LeO.bind ?_ (fun _ => ?_)
    · intro y0 y1 y2
      unfold b64_decode.l0
      repeat' first
      | (with_reducible exact ih0 _ _)
      | (with_reducible exact ih1 _ _ _ _)
      | (with_reducible exact ih2 _ _ _)
      | (with_reducible exact b64_value.mono _ _)
      | (with_reducible exact LeO.refl _)
      | (with_reducible exact LeO.none _)
      | (with_reducible refine LeO.ite ?_ ?_)
      | (with_reducible refine LeO.bind ?_ (fun _ => ?_))
      | exact ih0 _ _
      | exact ih1 _ _ _ _
      | exact ih2 _ _ _
      | exact b64_value.mono _ _
      | exact LeO.none _
      | refine LeO.ite ?_ ?_
      | refine LeO.bind ?_ (fun _ => ?_)
theorem b64_decode.mono : ∀ a0 a1 k, LeO (b64_decode.f k a0 a1) (b64_decode.f (k + 1) a0 a1) := by
  intro a0 a1 k
  obtain ⟨ih0, ih1, ih2⟩ := b64_decode.mono_l k
  unfold b64_decode.f
  repeat' first
      | (with_reducible exact ih0 _ _)
      | (with_reducible exact ih1 _ _ _ _)
      | (with_reducible exact ih2 _ _ _)
      | (with_reducible exact b64_value.mono _ _)
      | (with_reducible exact LeO.refl _)
      | (with_reducible exact LeO.none _)
      | (with_reducible refine LeO.ite ?_ ?_)
      | (with_reducible refine LeO.bind ?_ (fun _ => ?_))
      | exact ih0 _ _
      | exact ih1 _ _ _ _
      | exact ih2 _ _ _
      | exact b64_value.mono _ _
      | exact LeO.none _
      | refine LeO.ite ?_ ?_
      | refine LeO.bind ?_ (fun _ => ?_)
set_option maxHeartbeats 8000000 in
set_option maxRecDepth 100000 in
theorem b64_decode.calls (k : Nat) (A0 : Option Addr) (c0 : Nat) (l0 : List Int) (a1 : Bool) (r1 : List Int) (r2 : Bool) (w : World) (hr0 : Kd.C (Kd.int .u8) w A0 l0.length l0) (hc0 : l0.length ≤ c0) (h : b64_decode.f k l0 a1 = some (r1, r2)) :
    Calls Tryd.prog 17 #[.slice A0 l0.length c0, .bool a1] w fun e w' => ∃ v0_ : Value, e = .returned (.tuple #[v0_, .bool r2]) ∧ Kd.R (Kd.int .u8) 5 w' w.heap.size (fun _ => True) v0_ r1 ∧ Below w.heap.size w w' := by
  have HR0 := Aside0.mk hr0
  have HC0 := Aside0.mk hc0
  clear hr0 hc0
  have HB := Aside0.mk (Below.refl w.heap.size w)
  have H : (b64_decode.l0 k l0 a1 4) = some (r1, r2) := h
  clear h
  have HC3 := Aside0.mk H
  clear H
  go_enter Tryd.func17, Tryd.ntmps17
  go_upto_block 0 with (fail)
  go_cut [6] (fun v6 wc => ∃ (kq : Nat) (x6_2 : Int), v6 = .int .i64 x6_2 ∧ Aside0 (b64_decode.j1 kq l0 x6_2 = some (r1, r2)) ∧ Aside0 (kq ≤ k) ∧ Aside0 (Below w.heap.size w wc))
  case first =>
    have H := HC3.out
    clear HC3
    have H' := Aside0.mk H
    clear H
    go_wp2
    go_loopg [6] k (fun kq v6 w' => ∃ (x6_1 : Int), v6 = .int .i64 x6_1 ∧ Aside0 (b64_decode.l0 kq l0 a1 x6_1 = some (r1, r2)) ∧ Aside0 (kq ≤ k) ∧ Aside0 (Below w.heap.size w w'))
    case atStart => exact ⟨(4), (by first | rfl | (simp; done) | (simp [*]; done)), H', ⟨Nat.le_refl _⟩, ⟨by repeat (first | (with_reducible first | exact HB.out | apply below_alloc | apply pw_below_drewN | apply below_drew1) | exact HB.out)⟩⟩
    case round =>
      clear H'
      try clear c1
      try clear p2
      obtain ⟨x6_1, rfl, HA, HK1, HB⟩ := hrel
      cases gk with
      | zero => exact absurd HA.out (by simp [b64_decode.l0])
      | succ k1 =>
        have H := HA.out
        clear HA
        simp only [b64_decode.l0] at H
        by_cases c4 : a1 = true
        · subst c4
          have H1 : (if x6_1 > 2 then (if 0 ≤ (wrap64 (x6_1 - 1)) then (if (wrap64 (x6_1 - 1)) < (l0.length : Int) then (if (rd l0 (wrap64 (x6_1 - 1))) = 61 then (b64_decode.l0 k1 l0 true (wrap64 (x6_1 - 1))) else (b64_decode.j1 k1 l0 x6_1)) else (none)) else (none)) else (b64_decode.j1 k1 l0 x6_1)) = some (r1, r2) := by rw [if_pos rfl] at H; exact H
          clear H
          have H := H1
          clear H1
          by_cases c5 : x6_1 > 2
          · rw [if_pos c5] at H
            have c5b0 : decide (2 < x6_1) = true := decide_eq_true c5
            clear c5
            (first | rw [c5b0] | (simp only [i64_w, i32_w]; rw [c5b0]) | skip)
            obtain ⟨ji6, hji6⟩ : ∃ j_ : Int, (wrap64 (x6_1 - 1)) = j_ := ⟨_, rfl⟩
            replace H : (if 0 ≤ (ji6) then (if (ji6) < (l0.length : Int) then (if (rd l0 (ji6)) = 61 then (b64_decode.l0 k1 l0 true ji6) else (b64_decode.j1 k1 l0 x6_1)) else (none)) else (none)) = some (r1, r2) := by first | (rw [hji6] at H; exact H) | (simp only [hji6] at H ⊢; exact H)
            have hji6w : (IntKind.i64.wrap (x6_1 - 1)) = ji6 := (i64_w _).trans hji6
            by_cases c7 : 0 ≤ (ji6)
            · rw [if_pos c7] at H
              have c7b0 : decide (0 ≤ (ji6)) = true := decide_eq_true c7
              clear c7
              by_cases c8 : (ji6) < (l0.length : Int)
              · rw [if_pos c8] at H
                have c8b0 : decide ((ji6) < (l0.length : Int)) = true := decide_eq_true c8
                clear c8
                by_cases c9 : (rd l0 (ji6)) = 61
                · rw [if_pos c9] at H
                  have c9b0 : ((rd l0 (ji6)) == 61) = true := beq_iff_eq.mpr c9
                  have c9b1 : ((rd l0 (ji6)) != 61) = false := bne_eq_false_iff_eq.mpr c9
                  clear c9
                  have H' := Aside0.mk H
                  clear H
                  have p105 : 0 ≤ ((ji6) : Int) := of_decide_eq_true (by first | (with_reducible assumption) | assumption)
                  have q105 : (ji6) < (l0.length : Int) := of_decide_eq_true (by first | (with_reducible assumption) | assumption)
                  obtain ⟨ad105, e105, hx105_0⟩ := Kd.at_int HR0.out (ji6) p105 q105
                  cases e105
                  replace hx105_0 := (HB.out.cell (World.block_lt_of_cell? w _ hx105_0)).trans hx105_0
                  replace p105 := eq_true p105
                  replace q105 := eq_true q105
                  go_wp2
                  go_roundg k1
                  case measure => have := HK1.out; omega
                  case rel => exact ⟨(ji6), (by first | rfl | (simp; done) | (simp only [← hji6] <;> (first | rfl | simp)) | (simp [*]; done)), H', ⟨by have := HK1.out; omega⟩, ⟨by repeat (first | (with_reducible first | exact HB.out | apply below_alloc | apply pw_below_drewN | apply below_drew1) | exact HB.out)⟩⟩
                · rw [if_neg c9] at H
                  have c9b0 : ((rd l0 (ji6)) == 61) = false := beq_eq_false_iff_ne.mpr c9
                  have c9b1 : ((rd l0 (ji6)) != 61) = true := bne_iff_ne.mpr c9
                  have H' := Aside0.mk H
                  clear H
                  have p105 : 0 ≤ ((ji6) : Int) := of_decide_eq_true (by first | (with_reducible assumption) | assumption)
                  have q105 : (ji6) < (l0.length : Int) := of_decide_eq_true (by first | (with_reducible assumption) | assumption)
                  obtain ⟨ad105, e105, hx105_0⟩ := Kd.at_int HR0.out (ji6) p105 q105
                  cases e105
                  replace hx105_0 := (HB.out.cell (World.block_lt_of_cell? w _ hx105_0)).trans hx105_0
                  replace p105 := eq_true p105
                  replace q105 := eq_true q105
                  go_wp2
                  go_meet
                  case rel => exact ⟨_, (x6_1), (by first | rfl | (simp; done) | (simp [*]; done)), (by first | exact H' | (rw [hji6]; exact H')), ⟨by have := HK1.out; first | omega | exact Nat.le_refl _⟩, ⟨by repeat (first | (with_reducible first | exact HB.out | apply below_alloc | apply pw_below_drewN | apply below_drew1) | exact HB.out)⟩⟩
              · rw [if_neg c8] at H
                exact absurd H (by simp)
            · rw [if_neg c7] at H
              exact absurd H (by simp)
          · rw [if_neg c5] at H
            have c5b0 : decide (2 < x6_1) = false := decide_eq_false c5
            clear c5
            (first | rw [c5b0] | (simp only [i64_w, i32_w]; rw [c5b0]) | skip)
            have H' := Aside0.mk H
            clear H
            go_wp2
            go_meet
            case rel => exact ⟨_, (x6_1), (by first | rfl | (simp; done) | (simp [*]; done)), (by first | exact H' | (rw [hji6]; exact H')), ⟨by have := HK1.out; first | omega | exact Nat.le_refl _⟩, ⟨by repeat (first | (with_reducible first | exact HB.out | apply below_alloc | apply pw_below_drewN | apply below_drew1) | exact HB.out)⟩⟩
        · replace c4 := Bool.eq_false_iff.mpr c4
          subst c4
          have H1 : (b64_decode.j1 k1 l0 x6_1) = some (r1, r2) := by rw [if_neg (show ¬ (false = true) by decide)] at H; exact H
          clear H
          have H := H1
          clear H1
          have H' := Aside0.mk H
          clear H
          go_wp2
          go_meet
          case rel => exact ⟨_, (x6_1), (by first | rfl | (simp; done) | (simp [*]; done)), (by first | exact H' | (rw [hji6]; exact H')), ⟨by have := HK1.out; first | omega | exact Nat.le_refl _⟩, ⟨by repeat (first | (with_reducible first | exact HB.out | apply below_alloc | apply pw_below_drewN | apply below_drew1) | exact HB.out)⟩⟩
  case rest =>
    clear HC3
    try clear c1
    try clear p1
    try clear q1
    try clear hx1
    try clear p2
    try clear c4
    try clear c5
    try clear c5b0
    try clear p6
    try clear c7
    try clear c7b0
    try clear c8
    try clear c8b0
    try clear c9
    try clear c9b0
    try clear c9b1
    try clear hx105_0
    try clear p105
    try clear p2
    try clear q105
    obtain ⟨kq, x6_2, rfl, HA, HJ2, HB⟩ := hcut
    cases kq with
    | zero => exact absurd HA.out (by simp [b64_decode.j1])
    | succ kj2 =>
      have H := HA.out
      clear HA
      simp only [b64_decode.j1] at H
      have H' := Aside0.mk H
      clear H
      go_wp2
      go_loopg [7, 26] kj2 (fun kq v7 v26 w' => ∃ (x7_2 : Int) (x26_2 : Int), v7 = .int .i64 x7_2 ∧ v26 = .int .i64 x26_2 ∧ Aside0 (b64_decode.l1 kq l0 x6_2 x7_2 x26_2 = some (r1, r2)) ∧ Aside0 (kq ≤ kj2) ∧ Aside0 (Below w.heap.size w w'))
      case atStart => exact ⟨(0), (0), (by first | rfl | (simp; done) | (simp [*]; done)), (by first | rfl | (simp; done) | (simp [*]; done)), H', ⟨Nat.le_refl _⟩, ⟨by repeat (first | (with_reducible first | exact HB.out | apply below_alloc | apply pw_below_drewN | apply below_drew1) | exact HB.out)⟩⟩
      case round =>
        clear H'
        try clear c1
        try clear p1
        try clear q1
        try clear hx1
        try clear p2
        try clear c4
        try clear c5
        try clear c5b0
        try clear p6
        try clear c7
        try clear c7b0
        try clear c8
        try clear c8b0
        try clear c9
        try clear c9b0
        try clear c9b1
        try clear hx105_0
        try clear p1
        try clear p105
        try clear p2
        try clear p6
        try clear q1
        try clear q105
        obtain ⟨x7_2, x26_2, rfl, rfl, HA, HK2, HB⟩ := hrel
        cases gk with
        | zero => exact absurd HA.out (by simp [b64_decode.l1])
        | succ k2 =>
          have H := HA.out
          clear HA
          simp only [b64_decode.l1] at H
          by_cases c10 : x26_2 < 4
          · rw [if_pos c10] at H
            have c10b0 : decide (x26_2 < 4) = true := decide_eq_true c10
            clear c10
            by_cases c11 : x26_2 ≥ x6_2
            · rw [if_pos c11] at H
              have c11b0 : decide (x6_2 ≤ x26_2) = true := decide_eq_true c11
              clear c11
              have H' := Aside0.mk H
              clear H
              go_wp2
              go_roundg k2
              case measure => have := HJ2.out; have := HK2.out; omega
              case rel => exact ⟨(wrap64 (x7_2 * 64)), (wrap64 (x26_2 + 1)), (by first | rfl | (simp; done) | (simp [*]; done)), (by first | rfl | (simp; done) | (simp [*]; done)), H', ⟨by have := HJ2.out; have := HK2.out; omega⟩, ⟨by repeat (first | (with_reducible first | exact HB.out | apply below_alloc | apply pw_below_drewN | apply below_drew1) | exact HB.out)⟩⟩
            · rw [if_neg c11] at H
              have c11b0 : decide (x6_2 ≤ x26_2) = false := decide_eq_false c11
              clear c11
              by_cases c12 : 0 ≤ x26_2
              · rw [if_pos c12] at H
                have c12b0 : decide (0 ≤ x26_2) = true := decide_eq_true c12
                clear c12
                by_cases c13 : x26_2 < (l0.length : Int)
                · rw [if_pos c13] at H
                  have c13b0 : decide (x26_2 < (l0.length : Int)) = true := decide_eq_true c13
                  clear c13
                  replace H := Option.bind_eq_some_iff.mp H
                  obtain ⟨t113, A140, H⟩ := H
                  replace H : (if t113 < 0 then (some (([] : List Int), false)) else (b64_decode.l1 k2 l0 x6_2 (Go.bits .or .i64 (wrap64 (x7_2 * 64)) t113) (wrap64 (x26_2 + 1)))) = some (r1, r2) := H
                  have A14 := Aside0.mk A140
                  clear A140
                  by_cases c15 : t113 < 0
                  · rw [if_pos c15] at H
                    have c15b0 : decide (t113 < 0) = true := decide_eq_true c15
                    clear c15
                    simp only [Option.some.injEq, Prod.mk.injEq] at H
                    obtain ⟨rfl, rfl⟩ := H
                    have p112 : 0 ≤ (x26_2 : Int) := of_decide_eq_true (by first | (with_reducible assumption) | assumption)
                    have q112 : x26_2 < (l0.length : Int) := of_decide_eq_true (by first | (with_reducible assumption) | assumption)
                    obtain ⟨ad112, e112, hx112_0⟩ := Kd.at_int HR0.out x26_2 p112 q112
                    cases e112
                    replace hx112_0 := (HB.out.cell (World.block_lt_of_cell? w _ hx112_0)).trans hx112_0
                    replace p112 := eq_true p112
                    replace q112 := eq_true q112
                    go_wp2_with (first | ((with_reducible refine gate_callee (f := 20) rfl ?_); refine goesL_ (some 38) rfl rfl Tryd.func20 (by kernel_rfl) rfl #[.int .u8 (rd l0 x26_2)] rfl (by (try simp only [List.map_toArray, List.map_cons, List.map_nil]); first | done | rfl | (simp only [List.length_drop, List.length_take]; rfl)) ?_; (with_reducible refine (b64_value.calls k2 (rd l0 x26_2) t113 _ A14.out).mono ?_); rintro e w' ⟨rfl, ⟨nd, rfl⟩⟩; refine ⟨_, rfl, ?_⟩))
                    go_ret2
                    exact ⟨_, by first | rfl | (simp [errW_none, errW_some] <;> rfl) | (simp [*, errW_none, errW_some] <;> rfl), by first | exact Kd.R_nil _ _ _ _ _ | exact Kd.N_nil _ _ _ _ _ | exact Kd.V_nil _ _ _ _ _ | exact Kd.Q_nil _ _ _ _ _ | exact Kd.S_nil _ _ _ _ _, by repeat (first | (with_reducible first | exact HB.out | apply below_alloc | apply pw_below_drewN | apply below_drew1) | exact HB.out)⟩
                  · rw [if_neg c15] at H
                    have c15b0 : decide (t113 < 0) = false := decide_eq_false c15
                    clear c15
                    have H' := Aside0.mk H
                    clear H
                    have p112 : 0 ≤ (x26_2 : Int) := of_decide_eq_true (by first | (with_reducible assumption) | assumption)
                    have q112 : x26_2 < (l0.length : Int) := of_decide_eq_true (by first | (with_reducible assumption) | assumption)
                    obtain ⟨ad112, e112, hx112_0⟩ := Kd.at_int HR0.out x26_2 p112 q112
                    cases e112
                    replace hx112_0 := (HB.out.cell (World.block_lt_of_cell? w _ hx112_0)).trans hx112_0
                    replace p112 := eq_true p112
                    replace q112 := eq_true q112
                    go_wp2_with (first | ((with_reducible refine gate_callee (f := 20) rfl ?_); refine goesL_ (some 38) rfl rfl Tryd.func20 (by kernel_rfl) rfl #[.int .u8 (rd l0 x26_2)] rfl (by (try simp only [List.map_toArray, List.map_cons, List.map_nil]); first | done | rfl | (simp only [List.length_drop, List.length_take]; rfl)) ?_; (with_reducible refine (b64_value.calls k2 (rd l0 x26_2) t113 _ A14.out).mono ?_); rintro e w' ⟨rfl, ⟨nd, rfl⟩⟩; refine ⟨_, rfl, ?_⟩))
                    go_roundg k2
                    case measure => have := HJ2.out; have := HK2.out; omega
                    case rel => exact ⟨(Go.bits .or .i64 (wrap64 (x7_2 * 64)) t113), (wrap64 (x26_2 + 1)), (by first | rfl | (simp; done) | (simp [*]; done)), (by first | rfl | (simp; done) | (simp [*]; done)), H', ⟨by have := HJ2.out; have := HK2.out; omega⟩, ⟨by repeat (first | (with_reducible first | exact HB.out | apply below_alloc | apply pw_below_drewN | apply below_drew1) | exact HB.out)⟩⟩
                · rw [if_neg c13] at H
                  exact absurd H (by simp)
              · rw [if_neg c12] at H
                exact absurd H (by simp)
          · rw [if_neg c10] at H
            have c10b0 : decide (x26_2 < 4) = false := decide_eq_false c10
            clear c10
            obtain ⟨y106, hy106⟩ : ∃ y_ : List Int, y_ = (([(x7_2 / 65536) % 256, (x7_2 / 256) % 256, (x7_2) % 256] : List Int)) := ⟨_, rfl⟩
            replace H : (if 0 ≤ (wrap64 (8 * (wrap64 (4 - x6_2)))) then (if (Go.bits .and .i64 x7_2 (wrap64 ((shl .i64 1 (wrap64 (8 * (wrap64 (4 - x6_2))))) - 1))) = 0 then (if 0 ≤ (wrap64 (x6_2 - 1)) then (if (wrap64 (x6_2 - 1)) ≤ (y106.length : Int) then (some ((y106.take ((wrap64 (x6_2 - 1)) : Int).toNat), true)) else (none)) else (none)) else (some (([] : List Int), false))) else (none)) = some (r1, r2) := by first | (rw [hy106]; with_reducible exact H) | (have H2_ := (Option.bind_some _ _).symm.trans H; rw [hy106]; with_reducible exact H2_) | (have H2_ := (Option.bind_some _ _).symm.trans H; with_reducible exact H2_) | with_reducible exact H | (rw [hy106]; exact H) | exact H
            have Ny106 := Aside0.mk hy106
            clear hy106
            obtain ⟨ji16, hji16⟩ : ∃ j_ : Int, (wrap64 (8 * (wrap64 (4 - x6_2)))) = j_ := ⟨_, rfl⟩
            replace H : (if 0 ≤ (ji16) then (if (Go.bits .and .i64 x7_2 (wrap64 ((shl .i64 1 (ji16)) - 1))) = 0 then (if 0 ≤ (wrap64 (x6_2 - 1)) then (if (wrap64 (x6_2 - 1)) ≤ (y106.length : Int) then (some ((y106.take ((wrap64 (x6_2 - 1)) : Int).toNat), true)) else (none)) else (none)) else (some (([] : List Int), false))) else (none)) = some (r1, r2) := by first | (rw [hji16] at H; exact H) | (simp only [hji16] at H ⊢; exact H)
            have hji16w : (IntKind.i64.wrap (8 * (wrap64 (4 - x6_2)))) = ji16 := (i64_w _).trans hji16
            by_cases c17 : 0 ≤ (ji16)
            · rw [if_pos c17] at H
              have c17b0 := eq_true c17
              have c17b1 : decide (0 ≤ (ji16)) = true := decide_eq_true c17
              clear c17
              obtain ⟨ji18, hji18⟩ : ∃ j_ : Int, (shl .i64 1 (ji16)) = j_ := ⟨_, rfl⟩
              replace H : (if (Go.bits .and .i64 x7_2 (wrap64 ((ji18) - 1))) = 0 then (if 0 ≤ (wrap64 (x6_2 - 1)) then (if (wrap64 (x6_2 - 1)) ≤ (y106.length : Int) then (some ((y106.take ((wrap64 (x6_2 - 1)) : Int).toNat), true)) else (none)) else (none)) else (some (([] : List Int), false))) = some (r1, r2) := by first | (rw [hji18] at H; exact H) | (simp only [hji18] at H ⊢; exact H)
              have hji18_ : (IntKind.i64.wrap (1 * 2 ^ min (ji16).toNat 64)) = ji18 := hji18
              have hji18z : (ji16) ≤ 64 → (IntKind.i64.wrap (1 * 2 ^ (ji16).toNat)) = ji18 := shl_small hji18
              have hji18u : (IntKind.i64.wrap (2 ^ min (ji16).toNat 64)) = ji18 := by have h_ := hji18_; rw [Int.one_mul] at h_; exact h_
              have hji18v : (ji16) ≤ 64 → (IntKind.i64.wrap (2 ^ (ji16).toNat)) = ji18 := fun hle_ => by have h_ := hji18z hle_; rw [Int.one_mul] at h_; exact h_
              have hji18y : (wrap64 (1 * 2 ^ min (ji16).toNat 64)) = ji18 := (i64_w _).symm.trans hji18_
              have hji18x : (ji16) ≤ 64 → (wrap64 (1 * 2 ^ (ji16).toNat)) = ji18 := fun h_ => (i64_w _).symm.trans (hji18z h_)
              by_cases c19 : (Go.bits .and .i64 x7_2 (wrap64 ((ji18) - 1))) = 0
              · rw [if_pos c19] at H
                have c19b0 : ((Go.bits .and .i64 x7_2 (wrap64 ((ji18) - 1))) == 0) = true := beq_iff_eq.mpr c19
                have c19b1 : ((Go.bits .and .i64 x7_2 (wrap64 ((ji18) - 1))) != 0) = false := bne_eq_false_iff_eq.mpr c19
                clear c19
                obtain ⟨ji20, hji20⟩ : ∃ j_ : Int, (wrap64 (x6_2 - 1)) = j_ := ⟨_, rfl⟩
                replace H : (if 0 ≤ (ji20) then (if (ji20) ≤ (y106.length : Int) then (some ((y106.take ((ji20) : Int).toNat), true)) else (none)) else (none)) = some (r1, r2) := by first | (rw [hji20] at H; exact H) | (simp only [hji20] at H ⊢; exact H)
                have hji20w : (IntKind.i64.wrap (x6_2 - 1)) = ji20 := (i64_w _).trans hji20
                by_cases c21 : 0 ≤ (ji20)
                · rw [if_pos c21] at H
                  have c21b0 := eq_true c21
                  have c21b1 : decide (0 ≤ (ji20)) = true := decide_eq_true c21
                  clear c21
                  by_cases c22 : (ji20) ≤ (y106.length : Int)
                  · rw [if_pos c22] at H
                    have c22b0 := eq_true c22
                    have c22b1 : decide ((ji20) ≤ (y106.length : Int)) = true := decide_eq_true c22
                    clear c22
                    obtain ⟨y109, hy109⟩ : ∃ y_ : List Int, y_ = (y106.take ((ji20) : Int).toNat) := ⟨_, rfl⟩
                    replace H : (some (y109, true)) = some (r1, r2) := by first | (rw [hy109]; with_reducible exact H) | (have H2_ := (Option.bind_some _ _).symm.trans H; rw [hy109]; with_reducible exact H2_) | (have H2_ := (Option.bind_some _ _).symm.trans H; with_reducible exact H2_) | with_reducible exact H | (rw [hy109]; exact H) | exact H
                    have Ny109 := Aside0.mk hy109
                    clear hy109
                    simp only [Option.some.injEq, Prod.mk.injEq] at H
                    obtain ⟨rfl, rfl⟩ := H
                    go_wp2_with (first | ((with_reducible refine gate_dst (N := 53) rfl ?_); refine Kd.R_lit (Kd.int .u8) _ 5 ?hg (N := 53) ?hd (xs := ([(x7_2 / 65536) % 256, (x7_2 / 256) % 256, (x7_2) % 256] : List Int)) (inner := [.int .u8 ((x7_2 / 65536) % 256), .int .u8 ((x7_2 / 256) % 256), .int .u8 ((x7_2) % 256)]) (ok := fun _ => True) (okp := fun _ => True) ?hr ?hp (fun _ hk => hk) trivial (Below.refl _ _) (Nat.le_refl _) (by simp) ?_; (case hd => rfl); (case hg => rfl); (case hr => first | (go_simp; done) | (go_simp; rfl)); (case hp => exact (Reps.one (show Kd.M (Kd.int .u8) _ _ _ ((x7_2 / 65536) % 256) [.int .u8 ((x7_2 / 65536) % 256)] from rfl) (Reps.one (show Kd.M (Kd.int .u8) _ _ _ ((x7_2 / 256) % 256) [.int .u8 ((x7_2 / 256) % 256)] from rfl) (Reps.one (show Kd.M (Kd.int .u8) _ _ _ ((x7_2) % 256) [.int .u8 ((x7_2) % 256)] from rfl) (Reps.none _ _))))); intro v107 w23 ho24 hb hg_ hnew_; clear hg_ hnew_; (first | rw [← Ny106.out] at ho24 | (simp only [Int.reduceToNat] at ho24; rw [← Ny106.out] at ho24)); have n0_ := Aside0.mk (Kd.R_lower ho24 (below_size (by repeat (first | (with_reducible first | exact HB.out | apply below_alloc | apply pw_below_drewN | apply below_drew1) | exact HB.out)))); have n1_ := Aside0.mk (below_step (by repeat (first | (with_reducible first | exact HB.out | apply below_alloc | apply pw_below_drewN | apply below_drew1) | exact HB.out)) hb); clear HB; have HO108 := n0_; have HB := n1_; clear n0_ n1_; clear hb ho24; obtain ⟨Ao25, co25, eo25⟩ := Kd.R_slice HO108.out; subst eo25; have q26 : ((ji20) : Int) ≤ ((y106.length : Int) : Int) := of_decide_eq_true (by first | (with_reducible assumption) | assumption); obtain ⟨i026, hi026, _, hsz26, _⟩ := info_parts info5; have hcut26 := cut_to (P := Tryd.prog) 22 5 .i64 Tryd.underlying22 hi026 Ao25 y106.length co25 (ji20) (of_decide_eq_true (by first | (with_reducible assumption) | assumption)) q26 (Kd.R_reads' HO108.out).2.1; have hr26 := Kd.R_take (m := ((ji20) : Int).toNat) HO108.out (by omega); have hy26 : y109.length = ((ji20) : Int).toNat := (by rw [Ny109.out, List.length_take]; omega); rw [← Ny109.out] at hr26; rw [← hy26] at hr26 hcut26; clear hy26 hi026 hsz26 HO108; have HO111 := Aside0.mk hr26; clear hr26; replace q26 := eq_true q26))
                    go_ret2
                    exact ⟨_, by first | rfl | (simp [errW_none, errW_some] <;> rfl) | (simp only [← hji16, ← hji18, ← hji20]; first | rfl | (simp [errW_none, errW_some] <;> rfl)) | (simp [*, errW_none, errW_some] <;> rfl), by (with_reducible repeat (first | apply Kd.R_alloc | apply Kd.R_drewN | apply Kd.R_drew)); exact HO111.out, by repeat (first | (with_reducible first | exact HB.out | apply below_alloc | apply pw_below_drewN | apply below_drew1) | exact HB.out)⟩
                  · rw [if_neg c22] at H
                    exact absurd H (by simp)
                · rw [if_neg c21] at H
                  exact absurd H (by simp)
              · rw [if_neg c19] at H
                have c19b0 : ((Go.bits .and .i64 x7_2 (wrap64 ((ji18) - 1))) == 0) = false := beq_eq_false_iff_ne.mpr c19
                have c19b1 : ((Go.bits .and .i64 x7_2 (wrap64 ((ji18) - 1))) != 0) = true := bne_iff_ne.mpr c19
                simp only [Option.some.injEq, Prod.mk.injEq] at H
                obtain ⟨rfl, rfl⟩ := H
                go_wp2_with (first | ((with_reducible refine gate_dst (N := 53) rfl ?_); refine Kd.R_lit (Kd.int .u8) _ 5 ?hg (N := 53) ?hd (xs := ([(x7_2 / 65536) % 256, (x7_2 / 256) % 256, (x7_2) % 256] : List Int)) (inner := [.int .u8 ((x7_2 / 65536) % 256), .int .u8 ((x7_2 / 256) % 256), .int .u8 ((x7_2) % 256)]) (ok := fun _ => True) (okp := fun _ => True) ?hr ?hp (fun _ hk => hk) trivial (Below.refl _ _) (Nat.le_refl _) (by simp) ?_; (case hd => rfl); (case hg => rfl); (case hr => first | (go_simp; done) | (go_simp; rfl)); (case hp => exact (Reps.one (show Kd.M (Kd.int .u8) _ _ _ ((x7_2 / 65536) % 256) [.int .u8 ((x7_2 / 65536) % 256)] from rfl) (Reps.one (show Kd.M (Kd.int .u8) _ _ _ ((x7_2 / 256) % 256) [.int .u8 ((x7_2 / 256) % 256)] from rfl) (Reps.one (show Kd.M (Kd.int .u8) _ _ _ ((x7_2) % 256) [.int .u8 ((x7_2) % 256)] from rfl) (Reps.none _ _))))); intro v107 w27 ho28 hb hg_ hnew_; clear hg_ hnew_; (first | rw [← Ny106.out] at ho28 | (simp only [Int.reduceToNat] at ho28; rw [← Ny106.out] at ho28)); have n0_ := Aside0.mk (Kd.R_lower ho28 (below_size (by repeat (first | (with_reducible first | exact HB.out | apply below_alloc | apply pw_below_drewN | apply below_drew1) | exact HB.out)))); have n1_ := Aside0.mk (below_step (by repeat (first | (with_reducible first | exact HB.out | apply below_alloc | apply pw_below_drewN | apply below_drew1) | exact HB.out)) hb); clear HB; have HO108 := n0_; have HB := n1_; clear n0_ n1_; clear hb ho28))
                go_ret2
                exact ⟨_, by first | rfl | (simp [errW_none, errW_some] <;> rfl) | (simp only [← hji16, ← hji18]; first | rfl | (simp [errW_none, errW_some] <;> rfl)) | (simp [*, errW_none, errW_some] <;> rfl), by first | exact Kd.R_nil _ _ _ _ _ | exact Kd.N_nil _ _ _ _ _ | exact Kd.V_nil _ _ _ _ _ | exact Kd.Q_nil _ _ _ _ _ | exact Kd.S_nil _ _ _ _ _, by repeat (first | (with_reducible first | exact HB.out | apply below_alloc | apply pw_below_drewN | apply below_drew1) | exact HB.out)⟩
            · rw [if_neg c17] at H
              exact absurd H (by simp)

/-! ### b64_Decode: function 11 -/
def b64_Decode.l0 : Nat → List Int → List Int → Option (List Int × Bool)
  | 0, _, _ => none
  | k + 1, x0, x4 => if (x0.length : Int) > 0 then (if 4 ≤ (x0.length : Int) then ((b64_decode.f k (x0.take 4) ((x0.length : Int) == 4)).bind fun bt121 => (if bt121.2 = true then (if x4.length + bt121.1.length < 140737488355328 then (b64_Decode.l0 k (x0.drop (4 : Int).toNat) (x4 ++ bt121.1)) else (none)) else (some (([] : List Int), false)))) else (none)) else (some (x4, true))
def b64_Decode.f (k : Nat) (l0 : List Int) : Option (List Int × Bool) := (b64_Bare.f k l0).bind fun t114 => (if ((t114.length : Int) % 4) = 0 then (b64_Decode.l0 k t114 ([] : List Int)) else (some (([] : List Int), false)))
theorem b64_Decode.mono_l : ∀ k, (∀ y0 y1, LeO (b64_Decode.l0 k y0 y1) (b64_Decode.l0 (k + 1) y0 y1))
  | 0 => fun _ _ r h => by simp [b64_Decode.l0] at h
  | k + 1 => by
    have ih0 := b64_Decode.mono_l k
    · intro y0 y1
      unfold b64_Decode.l0
      repeat' first
      | (with_reducible exact ih0 _ _)
      | (with_reducible exact b64_Bare.mono _ _)
      | (with_reducible exact b64_decode.mono _ _ _)
      | (with_reducible exact LeO.refl _)
      | (with_reducible exact LeO.none _)
      | (with_reducible refine LeO.ite ?_ ?_)
      | (with_reducible refine LeO.bind ?_ (fun _ => ?_))
      | exact ih0 _ _
      | exact b64_Bare.mono _ _
      | exact b64_decode.mono _ _ _
      | exact LeO.none _
      | refine LeO.ite ?_ ?_
      | refine LeO.bind ?_ (fun _ => ?_)
theorem b64_Decode.mono : ∀ a0 k, LeO (b64_Decode.f k a0) (b64_Decode.f (k + 1) a0) := by
  intro a0 k
  have ih0 := b64_Decode.mono_l k
  unfold b64_Decode.f
  repeat' first
      | (with_reducible exact ih0 _ _)
      | (with_reducible exact b64_Bare.mono _ _)
      | (with_reducible exact b64_decode.mono _ _ _)
      | (with_reducible exact LeO.refl _)
      | (with_reducible exact LeO.none _)
      | (with_reducible refine LeO.ite ?_ ?_)
      | (with_reducible refine LeO.bind ?_ (fun _ => ?_))
      | exact ih0 _ _
      | exact b64_Bare.mono _ _
      | exact b64_decode.mono _ _ _
      | exact LeO.none _
      | refine LeO.ite ?_ ?_
      | refine LeO.bind ?_ (fun _ => ?_)
set_option maxHeartbeats 8000000 in
set_option maxRecDepth 100000 in
theorem b64_Decode.calls (k : Nat) (A0 : Option Addr) (c0 : Nat) (l0 : List Int) (r1 : List Int) (r2 : Bool) (w : World) (hr0 : Kd.C (Kd.int .u8) w A0 l0.length l0) (hc0 : l0.length ≤ c0) (h : b64_Decode.f k l0 = some (r1, r2)) :
    Calls Tryd.prog 11 #[.slice A0 l0.length c0] w fun e w' => ∃ v0_ : Value, e = .returned (.tuple #[v0_, .bool r2]) ∧ Kd.R (Kd.int .u8) 5 w' w.heap.size (fun _ => True) v0_ r1 ∧ Below w.heap.size w w' := by
  have HR0 := Aside0.mk hr0
  have HC0 := Aside0.mk hc0
  clear hr0 hc0
  have HB := Aside0.mk (Below.refl w.heap.size w)
  have H : ((b64_Bare.f k l0).bind fun t114 => (if ((t114.length : Int) % 4) = 0 then (b64_Decode.l0 k t114 ([] : List Int)) else (some (([] : List Int), false)))) = some (r1, r2) := h
  clear h
  replace H := Option.bind_eq_some_iff.mp H
  obtain ⟨t114, A20, H⟩ := H
  replace H : (if ((t114.length : Int) % 4) = 0 then (b64_Decode.l0 k t114 ([] : List Int)) else (some (([] : List Int), false))) = some (r1, r2) := H
  have A2 := Aside0.mk A20
  clear A20
  by_cases c3 : ((t114.length : Int) % 4) = 0
  · rw [if_pos c3] at H
    have c3b0 : (((t114.length : Int) % 4) == 0) = true := beq_iff_eq.mpr c3
    have c3b1 : (((t114.length : Int) % 4) != 0) = false := bne_eq_false_iff_eq.mpr c3
    clear c3
    have H' := Aside0.mk H
    clear H
    go_enter Tryd.func11, Tryd.ntmps11
    go_wp2_with (first | ((with_reducible refine gate_callee (f := 13) rfl ?_); refine goesL_ (some 8) rfl rfl Tryd.func13 (by kernel_rfl) rfl #[.slice A0 l0.length c0] rfl (by (try simp only [List.map_toArray, List.map_cons, List.map_nil]); first | done | rfl | (simp only [List.length_drop, List.length_take]; rfl)) ?_; (with_reducible refine (b64_Bare.calls k _ _ l0 t114 _ ?side1 ?side2 A2.out).mono ?_); (case side1 => repeat (first | exact HR0.out | (with_reducible refine Kd.C_alloc ?_ _) | (with_reducible refine Kd.C_drewN ?_ _) | (with_reducible refine Kd.C_drew ?_))); (case side2 => exact HC0.out); rintro e w4 ⟨v115, rfl, ho0, hb⟩; refine ⟨_, rfl, ?_⟩; have n0_ := Aside0.mk (Kd.R_lower ho0 (below_size (by repeat (first | (with_reducible first | exact HB.out | apply below_alloc | apply pw_below_drewN | apply below_drew1) | exact HB.out)))); have n1_ := Aside0.mk (below_step (by repeat (first | (with_reducible first | exact HB.out | apply below_alloc | apply pw_below_drewN | apply below_drew1) | exact HB.out)) hb); clear HB; have HO116 := n0_; have HB := n1_; clear n0_ n1_; (try clear hb); (try clear hb2); (try clear hk); (try clear hi); (try clear ho0); obtain ⟨Ao5, co5, eo5⟩ := Kd.R_slice HO116.out; subst eo5))
    go_loopg [0, 4] k (fun kq v0 v4 w' => ∃ (x0_1 : List Int) (x4_1 : List Int), Aside0 (b64_Decode.l0 kq x0_1 x4_1 = some (r1, r2)) ∧ Aside0 (kq ≤ k) ∧ Aside0 (Kd.Q (Kd.int .u8) 5 w' w.heap.size (fun k_ => some k_ ≠ (v4 : Value).ownBlock) v0 x0_1) ∧ Aside0 (Kd.R (Kd.int .u8) 5 w' w.heap.size (fun k_ => some k_ ≠ (v0 : Value).ownBlock) v4 x4_1) ∧ Aside0 (Below w.heap.size w w'))
    case atStart => exact ⟨(t114), (([] : List Int)), H', ⟨Nat.le_refl _⟩, ⟨Kd.Q_of_R (by (with_reducible repeat (first | apply Kd.R_alloc | apply Kd.R_drewN | apply Kd.R_drew)); exact Kd.R_mono HO116.out (fun _ hk => (by simp [Value.ownBlock])))⟩, ⟨by first | exact Kd.R_nil _ _ _ _ _ | exact Kd.N_nil _ _ _ _ _ | exact Kd.V_nil _ _ _ _ _ | exact Kd.Q_nil _ _ _ _ _ | exact Kd.S_nil _ _ _ _ _⟩, ⟨by repeat (first | (with_reducible first | exact HB.out | apply below_alloc | apply pw_below_drewN | apply below_drew1) | exact HB.out)⟩⟩
    case round =>
      clear H'
      try clear c1
      try clear p2
      try clear c3
      try clear c3b0
      try clear c3b1
      obtain ⟨x0_1, x4_1, HA, HK1, HO_0, HO_4, HB⟩ := hrel
      cases gk with
      | zero => exact absurd HA.out (by simp [b64_Decode.l0])
      | succ k1 =>
        have H := HA.out
        clear HA
        simp only [b64_Decode.l0] at H
        by_cases c6 : (x0_1.length : Int) > 0
        · rw [if_pos c6] at H
          have c6b0 : decide (0 < (x0_1.length : Int)) = true := decide_eq_true c6
          have c6b1 : decide (0 < x0_1.length) = true := decide_eq_true (by omega)
          clear c6
          by_cases c7 : 4 ≤ (x0_1.length : Int)
          · rw [if_pos c7] at H
            have c7b0 := eq_true c7
            have c7b1 : decide (4 ≤ (x0_1.length : Int)) = true := decide_eq_true c7
            clear c7
            obtain ⟨y117, hy117⟩ : ∃ y_ : List Int, y_ = (x0_1.take 4) := ⟨_, rfl⟩
            replace H : ((b64_decode.f k1 y117 ((x0_1.length : Int) == 4)).bind fun bt121 => (if bt121.2 = true then (if x4_1.length + bt121.1.length < 140737488355328 then (b64_Decode.l0 k1 (x0_1.drop (4 : Int).toNat) (x4_1 ++ bt121.1)) else (none)) else (some (([] : List Int), false)))) = some (r1, r2) := by first | (rw [hy117]; with_reducible exact H) | (have H2_ := (Option.bind_some _ _).symm.trans H; rw [hy117]; with_reducible exact H2_) | (have H2_ := (Option.bind_some _ _).symm.trans H; with_reducible exact H2_) | with_reducible exact H | (rw [hy117]; exact H) | exact H
            have Ny117 := Aside0.mk hy117
            clear hy117
            replace H := Option.bind_eq_some_iff.mp H
            obtain ⟨⟨t121, t122⟩, A80, H⟩ := H
            replace H : (if t122 = true then (if x4_1.length + t121.length < 140737488355328 then (b64_Decode.l0 k1 (x0_1.drop (4 : Int).toNat) (x4_1 ++ t121)) else (none)) else (some (([] : List Int), false))) = some (r1, r2) := H
            have A8 := Aside0.mk A80
            clear A80
            by_cases c9 : t122 = true
            · subst c9
              have H1 : (if x4_1.length + t121.length < 140737488355328 then (b64_Decode.l0 k1 (x0_1.drop (4 : Int).toNat) (x4_1 ++ t121)) else (none)) = some (r1, r2) := by rw [if_pos rfl] at H; exact H
              clear H
              have H := H1
              clear H1
              by_cases c10 : x4_1.length + t121.length < 140737488355328
              · rw [if_pos c10] at H
                have LMc10 := Aside0.mk c10
                clear c10
                obtain ⟨y125, hy125⟩ : ∃ y_ : List Int, y_ = (x4_1 ++ t121) := ⟨_, rfl⟩
                replace H : (b64_Decode.l0 k1 (x0_1.drop (4 : Int).toNat) y125) = some (r1, r2) := by first | (rw [hy125]; with_reducible exact H) | (have H2_ := (Option.bind_some _ _).symm.trans H; rw [hy125]; with_reducible exact H2_) | (have H2_ := (Option.bind_some _ _).symm.trans H; with_reducible exact H2_) | with_reducible exact H | (rw [hy125]; exact H) | exact H
                have Ny125 := Aside0.mk hy125
                clear hy125
                have c11b0 := eq_true (of_decide_eq_true (by first | (with_reducible assumption) | assumption) : 4 ≤ (x0_1.length : Int))
                obtain ⟨y128, hy128⟩ : ∃ y_ : List Int, y_ = (x0_1.drop (4 : Int).toNat) := ⟨_, rfl⟩
                replace H : (b64_Decode.l0 k1 y128 y125) = some (r1, r2) := by first | (rw [hy128]; with_reducible exact H) | (have H2_ := (Option.bind_some _ _).symm.trans H; rw [hy128]; with_reducible exact H2_) | (have H2_ := (Option.bind_some _ _).symm.trans H; with_reducible exact H2_) | with_reducible exact H | (rw [hy128]; exact H) | exact H
                have Ny128 := Aside0.mk hy128
                clear hy128
                have H' := Aside0.mk H
                clear H
                obtain ⟨Ao12, co12, eo12, _⟩ := Kd.Q_slice HO_0.out
                subst eo12
                have q13 : (4 : Int) ≤ ((x0_1.length : Int) : Int) := of_decide_eq_true (by first | (with_reducible assumption) | assumption)
                obtain ⟨i013, hi013, _, hsz13, _⟩ := info_parts info5
                have hroom13 : x0_1.length ≤ co12 := (Kd.Q_reads' HO_0.out).2.1
                have hC13 : Kd.C (Kd.int .u8) _ Ao12 x0_1.length x0_1 := (Kd.Q_reads' HO_0.out).2.2
                have hcut13 := cut_to (P := Tryd.prog) 22 5 .i64 Tryd.underlying22 hi013 Ao12 x0_1.length co12 4 (by omega) q13 hroom13
                have hr13 := Kd.C_take (m := 4) hC13 (by omega)
                have hy13 : y117.length = (4 : Int).toNat := (by rw [Ny117.out, List.length_take]; omega)
                rw [← Ny117.out] at hr13
                rw [← hy13] at hcut13
                have HR120 := Aside0.mk hr13
                have HC120 := Aside0.mk (show y117.length ≤ co12 from by omega)
                clear hr13 hC13 hroom13 hi013 hsz13
                have KY13 := Aside0.mk hy13
                clear hy13
                have KL13 := Aside0.mk (show 4 ≤ x0_1.length from by omega)
                replace q13 := eq_true q13
                go_wp2_with (first | ((with_reducible refine gate_callee (f := 17) rfl ?_); refine goesL_ (some 24) rfl rfl Tryd.func17 (by kernel_rfl) rfl #[.slice Ao12 y117.length co12, .bool ((x0_1.length : Int) == 4)] rfl (by (try simp only [List.map_toArray, List.map_cons, List.map_nil]); first | done | rfl | (simp only [List.length_drop, List.length_take]; rfl)) ?_; (with_reducible refine (b64_decode.calls k1 _ _ y117 ((x0_1.length : Int) == 4) t121 true _ ?side1 ?side2 A8.out).mono ?_); (case side1 => repeat (first | exact (by repeat (first | (with_reducible exact HR120.out) | (with_reducible refine Kd.C_alloc ?_ _) | (with_reducible refine Kd.C_drewN ?_ _) | (with_reducible refine Kd.C_drew ?_) | exact HR120.out)) | (with_reducible refine Kd.C_alloc ?_ _) | (with_reducible refine Kd.C_drewN ?_ _) | (with_reducible refine Kd.C_drew ?_))); (case side2 => exact HC120.out); rintro e w14 ⟨v123, rfl, ho0, hb⟩; refine ⟨_, rfl, ?_⟩; have n0_ := Aside0.mk (Kd.Q_elder' (by (with_reducible repeat (first | apply Kd.Q_alloc | apply Kd.Q_drewN | apply Kd.Q_drew)); exact HO_0.out) (Kd.R_base ho0) hb); have n1_ := Aside0.mk (Kd.R_elder' (by (with_reducible repeat (first | apply Kd.R_alloc | apply Kd.R_drewN | apply Kd.R_drew)); exact HO_4.out) (Kd.R_base ho0) hb); have n2_ := Aside0.mk (Kd.R_lower (Kd.R_new' (Kd.R_new' ho0 (Kd.Q_lt (by (with_reducible repeat (first | apply Kd.Q_alloc | apply Kd.Q_drewN | apply Kd.Q_drew)); exact HO_0.out))) (Kd.R_lt (by (with_reducible repeat (first | apply Kd.R_alloc | apply Kd.R_drewN | apply Kd.R_drew)); exact HO_4.out))) (below_size (by repeat (first | (with_reducible first | exact HB.out | apply below_alloc | apply pw_below_drewN | apply below_drew1) | exact HB.out)))); have n3_ := Aside0.mk (Kd.C_below (by repeat (first | (with_reducible exact HR120.out) | (with_reducible refine Kd.C_alloc ?_ _) | (with_reducible refine Kd.C_drewN ?_ _) | (with_reducible refine Kd.C_drew ?_) | exact HR120.out)) hb); have n4_ := Aside0.mk (below_step (by repeat (first | (with_reducible first | exact HB.out | apply below_alloc | apply pw_below_drewN | apply below_drew1) | exact HB.out)) hb); clear HO_0; clear HO_4; clear HR120; clear HB; have HO_0 := n0_; have HO_4 := n1_; have HO124 := n2_; have HR120 := n3_; have HB := n4_; clear n0_ n1_ n2_ n3_ n4_; (try clear hb); (try clear hb2); (try clear hk); (try clear hi); (try clear ho0); obtain ⟨Ao16, co16, eo16⟩ := Kd.R_slice HO124.out; subst eo16) | ((with_reducible refine gate_builtin (b := .append) (xs := #[.tmp 29, .tmp 30]) rfl ?_); at_builtin; refine Kd.R_append_rows (Kd.int .u8) (w0 := w) w.heap.size rfl (.tmp 29) (.tmp 30) 22 5 (.int .u8 0) 1 rfl Tryd.underlying22 info5 rfl (by decide) (by omega) u4 x4_1 t121 _ _ _ (fun k_ => some k_ ≠ (.slice Ao12 x0_1.length co12 : Value).ownBlock ∧ some k_ ≠ (.slice Ao16 t121.length co16 : Value).ownBlock) (fun _ => False) rfl rfl ?aO ?aR (fun _ _ h => h) (fun _ h => h.elim) ?aF ?aB ?aS ?aL ?_; (case aR => repeat (first | exact (Kd.R_reads' HO124.out).2.2 | (with_reducible refine Kd.C_alloc ?_ _) | (with_reducible refine Kd.C_drewN ?_ _) | (with_reducible refine Kd.C_drew ?_))); (case aB => exact (by repeat (first | (with_reducible first | exact HB.out | apply below_alloc | apply pw_below_drewN | apply below_drew1) | exact HB.out))); (case aF => exact (fun k_ hk => ⟨Kd.fresh' (Kd.Q_lt (by (with_reducible repeat (first | apply Kd.Q_alloc | apply Kd.Q_drewN | apply Kd.Q_drew)); exact HO_0.out)) k_ hk, Kd.fresh' (Kd.R_lt (by (with_reducible repeat (first | apply Kd.R_alloc | apply Kd.R_drewN | apply Kd.R_drew)); exact HO124.out)) k_ hk⟩)); (case aO => exact (by (with_reducible repeat (first | apply Kd.R_alloc | apply Kd.R_drewN | apply Kd.R_drew)); exact HO_4.out)); (case aS => exact (below_size (by repeat (first | (with_reducible first | exact HB.out | apply below_alloc | apply pw_below_drewN | apply below_drew1) | exact HB.out)))); (case aL => have := LMc10.out; omega); intro v126 w15 ho hb hg hat; rw [← Ny125.out] at ho; have n0_ := Aside0.mk (Kd.Q_after (ok := (fun k_ => some k_ ≠ (.slice Ao16 t121.length co16 : Value).ownBlock)) (by (with_reducible repeat (first | apply Kd.Q_alloc | apply Kd.Q_drewN | apply Kd.Q_drew)); exact Kd.Q_mono HO_0.out (fun _ hk => ⟨hk.2, hk.1⟩)) hg hat); have n1_ := Aside0.mk (Kd.R_after (ok := (fun k_ => some k_ ≠ (.slice Ao12 x0_1.length co12 : Value).ownBlock)) (by (with_reducible repeat (first | apply Kd.R_alloc | apply Kd.R_drewN | apply Kd.R_drew)); exact Kd.R_mono HO124.out (fun _ hk => ⟨hk.1.2, hk.2⟩)) hg hat); have n2_ := Aside0.mk (hb); have n3_ := Aside0.mk ((show Kd.C (Kd.int .u8) w15 Ao12 y117.length y117 from by rw [Ny117.out]; exact Kd.C_take (m := 4) ((Kd.Q_reads' (Kd.Q_after (ok := (fun k_ => some k_ ≠ (.slice Ao16 t121.length co16 : Value).ownBlock)) (by (with_reducible repeat (first | apply Kd.Q_alloc | apply Kd.Q_drewN | apply Kd.Q_drew)); exact Kd.Q_mono HO_0.out (fun _ hk => ⟨hk.2, hk.1⟩)) hg hat)).2.2) KL13.out)); have n4_ := Aside0.mk (ho); clear HO_0; clear HO124; clear HB; clear HR120; clear HO_4; have HO_0 := n0_; have HO124 := n1_; have HB := n2_; have HR120 := n3_; have HO127 := n4_; clear n0_ n1_ n2_ n3_ n4_; clear ho hb hg hat; have q17 : (4 : Int) ≤ ((x0_1.length : Int) : Int) := of_decide_eq_true (by first | (with_reducible assumption) | assumption); obtain ⟨i017, hi017, _, hsz17, _⟩ := info_parts info5; have hcut17 := cut_from (P := Tryd.prog) 22 5 .i64 Tryd.underlying22 hi017 1 hsz17 Ao12 x0_1.length co12 4 (by omega) q17; have hr17 := Kd.Q_drop (k := (4 : Int).toNat) HO_0.out (by omega); obtain ⟨A17, hA17⟩ : ∃ A1, A1 = (if co12 = (4 : Int).toNat then Ao12 else (Ao12 : Option Addr).map (·.add ((4 : Int).toNat * 1))) := ⟨_, rfl⟩; obtain ⟨c17, hc17⟩ : ∃ c1, c1 = co12 - (4 : Int).toNat := ⟨_, rfl⟩; have hy17 : y128.length = x0_1.length - (4 : Int).toNat := (by rw [Ny128.out, List.length_drop]); rw [← Ny128.out] at hr17; rw [← hy17, ← hA17, ← hc17] at hcut17; replace hr17 : Kd.Q (Kd.int .u8) 5 w15 w.heap.size (fun k_ => some k_ ≠ (.slice Ao16 t121.length co16 : Value).ownBlock ∧ some k_ ≠ (v126 : Value).ownBlock) (.slice A17 y128.length c17) y128 := (by rw [hA17, hc17, hy17]; exact hr17); have HE17 : Aside0 ((Value.slice A17 y128.length c17).ownBlock = (.slice Ao12 x0_1.length co12 : Value).ownBlock) := ⟨by rw [hA17]; split <;> (cases (Ao12 : Option Addr) <;> rfl)⟩; clear hy17 hi017 hsz17 HO_0 hA17 hc17; have HO130 := Aside0.mk hr17; clear hr17; replace q17 := eq_true q17; have n_ := Aside0.mk (Kd.R_mono (ok' := fun k_ => (some k_ ≠ (.slice A17 y128.length c17 : Value).ownBlock ∧ some k_ ≠ (v126 : Value).ownBlock)) HO124.out (fun k_ hk => ⟨(by rw [HE17.out]; exact hk.1), hk.2⟩)); clear HO124; have HO124 := n_; clear n_; have n_ := Aside0.mk (Kd.R_mono (ok' := fun k_ => (some k_ ≠ (.slice A17 y128.length c17 : Value).ownBlock ∧ some k_ ≠ (.slice Ao16 t121.length co16 : Value).ownBlock)) HO127.out (fun k_ hk => ⟨(by rw [HE17.out]; exact hk.1), hk.2⟩)); clear HO127; have HO127 := n_; clear n_))
                go_roundg k1
                case measure => have := HK1.out; omega
                case rel => exact ⟨(y128), (y125), H', ⟨by have := HK1.out; omega⟩, ⟨by (with_reducible repeat (first | apply Kd.Q_alloc | apply Kd.Q_drewN | apply Kd.Q_drew)); exact Kd.Q_mono HO130.out (fun _ hk => hk.2)⟩, ⟨by (with_reducible repeat (first | apply Kd.R_alloc | apply Kd.R_drewN | apply Kd.R_drew)); exact Kd.R_mono HO127.out (fun _ hk => hk.1)⟩, ⟨by repeat (first | (with_reducible first | exact HB.out | apply below_alloc | apply pw_below_drewN | apply below_drew1) | exact HB.out)⟩⟩
              · rw [if_neg c10] at H
                exact absurd H (by simp)
            · replace c9 := Bool.eq_false_iff.mpr c9
              subst c9
              have H1 : (some (([] : List Int), false)) = some (r1, r2) := by rw [if_neg (show ¬ (false = true) by decide)] at H; exact H
              clear H
              have H := H1
              clear H1
              simp only [Option.some.injEq, Prod.mk.injEq] at H
              obtain ⟨rfl, rfl⟩ := H
              obtain ⟨Ao18, co18, eo18, _⟩ := Kd.Q_slice HO_0.out
              subst eo18
              have q19 : (4 : Int) ≤ ((x0_1.length : Int) : Int) := of_decide_eq_true (by first | (with_reducible assumption) | assumption)
              obtain ⟨i019, hi019, _, hsz19, _⟩ := info_parts info5
              have hroom19 : x0_1.length ≤ co18 := (Kd.Q_reads' HO_0.out).2.1
              have hC19 : Kd.C (Kd.int .u8) _ Ao18 x0_1.length x0_1 := (Kd.Q_reads' HO_0.out).2.2
              have hcut19 := cut_to (P := Tryd.prog) 22 5 .i64 Tryd.underlying22 hi019 Ao18 x0_1.length co18 4 (by omega) q19 hroom19
              have hr19 := Kd.C_take (m := 4) hC19 (by omega)
              have hy19 : y117.length = (4 : Int).toNat := (by rw [Ny117.out, List.length_take]; omega)
              rw [← Ny117.out] at hr19
              rw [← hy19] at hcut19
              have HR120 := Aside0.mk hr19
              have HC120 := Aside0.mk (show y117.length ≤ co18 from by omega)
              clear hr19 hC19 hroom19 hi019 hsz19
              have KY19 := Aside0.mk hy19
              clear hy19
              have KL19 := Aside0.mk (show 4 ≤ x0_1.length from by omega)
              replace q19 := eq_true q19
              go_wp2_with (first | ((with_reducible refine gate_callee (f := 17) rfl ?_); refine goesL_ (some 24) rfl rfl Tryd.func17 (by kernel_rfl) rfl #[.slice Ao18 y117.length co18, .bool ((x0_1.length : Int) == 4)] rfl (by (try simp only [List.map_toArray, List.map_cons, List.map_nil]); first | done | rfl | (simp only [List.length_drop, List.length_take]; rfl)) ?_; (with_reducible refine (b64_decode.calls k1 _ _ y117 ((x0_1.length : Int) == 4) t121 false _ ?side1 ?side2 A8.out).mono ?_); (case side1 => repeat (first | exact (by repeat (first | (with_reducible exact HR120.out) | (with_reducible refine Kd.C_alloc ?_ _) | (with_reducible refine Kd.C_drewN ?_ _) | (with_reducible refine Kd.C_drew ?_) | exact HR120.out)) | (with_reducible refine Kd.C_alloc ?_ _) | (with_reducible refine Kd.C_drewN ?_ _) | (with_reducible refine Kd.C_drew ?_))); (case side2 => exact HC120.out); rintro e w20 ⟨v123, rfl, ho0, hb⟩; refine ⟨_, rfl, ?_⟩; have n0_ := Aside0.mk (Kd.Q_elder' (by (with_reducible repeat (first | apply Kd.Q_alloc | apply Kd.Q_drewN | apply Kd.Q_drew)); exact HO_0.out) (Kd.R_base ho0) hb); have n1_ := Aside0.mk (Kd.R_elder' (by (with_reducible repeat (first | apply Kd.R_alloc | apply Kd.R_drewN | apply Kd.R_drew)); exact HO_4.out) (Kd.R_base ho0) hb); have n2_ := Aside0.mk (Kd.R_lower (Kd.R_new' (Kd.R_new' ho0 (Kd.Q_lt (by (with_reducible repeat (first | apply Kd.Q_alloc | apply Kd.Q_drewN | apply Kd.Q_drew)); exact HO_0.out))) (Kd.R_lt (by (with_reducible repeat (first | apply Kd.R_alloc | apply Kd.R_drewN | apply Kd.R_drew)); exact HO_4.out))) (below_size (by repeat (first | (with_reducible first | exact HB.out | apply below_alloc | apply pw_below_drewN | apply below_drew1) | exact HB.out)))); have n3_ := Aside0.mk (Kd.C_below (by repeat (first | (with_reducible exact HR120.out) | (with_reducible refine Kd.C_alloc ?_ _) | (with_reducible refine Kd.C_drewN ?_ _) | (with_reducible refine Kd.C_drew ?_) | exact HR120.out)) hb); have n4_ := Aside0.mk (below_step (by repeat (first | (with_reducible first | exact HB.out | apply below_alloc | apply pw_below_drewN | apply below_drew1) | exact HB.out)) hb); clear HO_0; clear HO_4; clear HR120; clear HB; have HO_0 := n0_; have HO_4 := n1_; have HO124 := n2_; have HR120 := n3_; have HB := n4_; clear n0_ n1_ n2_ n3_ n4_; (try clear hb); (try clear hb2); (try clear hk); (try clear hi); (try clear ho0)))
              go_ret2
              exact ⟨_, by first | rfl | (simp [errW_none, errW_some] <;> rfl) | (simp [*, errW_none, errW_some] <;> rfl), by first | exact Kd.R_nil _ _ _ _ _ | exact Kd.N_nil _ _ _ _ _ | exact Kd.V_nil _ _ _ _ _ | exact Kd.Q_nil _ _ _ _ _ | exact Kd.S_nil _ _ _ _ _, by repeat (first | (with_reducible first | exact HB.out | apply below_alloc | apply pw_below_drewN | apply below_drew1) | exact HB.out)⟩
          · rw [if_neg c7] at H
            exact absurd H (by simp)
        · rw [if_neg c6] at H
          have c6b0 : decide (0 < (x0_1.length : Int)) = false := decide_eq_false c6
          have c6b1 : decide (0 < x0_1.length) = false := decide_eq_false (by omega)
          clear c6
          simp only [Option.some.injEq, Prod.mk.injEq] at H
          obtain ⟨rfl, rfl⟩ := H
          obtain ⟨Ao21, co21, eo21, _⟩ := Kd.Q_slice HO_0.out
          subst eo21
          go_wp2
          go_ret2
          exact ⟨_, by first | rfl | (simp [errW_none, errW_some] <;> rfl) | (simp [*, errW_none, errW_some] <;> rfl), by (with_reducible repeat (first | apply Kd.R_alloc | apply Kd.R_drewN | apply Kd.R_drew)); exact Kd.R_mono HO_4.out (fun _ hk => trivial), by repeat (first | (with_reducible first | exact HB.out | apply below_alloc | apply pw_below_drewN | apply below_drew1) | exact HB.out)⟩
  · rw [if_neg c3] at H
    have c3b0 : (((t114.length : Int) % 4) == 0) = false := beq_eq_false_iff_ne.mpr c3
    have c3b1 : (((t114.length : Int) % 4) != 0) = true := bne_iff_ne.mpr c3
    simp only [Option.some.injEq, Prod.mk.injEq] at H
    obtain ⟨rfl, rfl⟩ := H
    go_enter Tryd.func11, Tryd.ntmps11
    go_wp2_with (first | ((with_reducible refine gate_callee (f := 13) rfl ?_); refine goesL_ (some 8) rfl rfl Tryd.func13 (by kernel_rfl) rfl #[.slice A0 l0.length c0] rfl (by (try simp only [List.map_toArray, List.map_cons, List.map_nil]); first | done | rfl | (simp only [List.length_drop, List.length_take]; rfl)) ?_; (with_reducible refine (b64_Bare.calls k _ _ l0 t114 _ ?side1 ?side2 A2.out).mono ?_); (case side1 => repeat (first | exact HR0.out | (with_reducible refine Kd.C_alloc ?_ _) | (with_reducible refine Kd.C_drewN ?_ _) | (with_reducible refine Kd.C_drew ?_))); (case side2 => exact HC0.out); rintro e w22 ⟨v115, rfl, ho0, hb⟩; refine ⟨_, rfl, ?_⟩; have n0_ := Aside0.mk (Kd.R_lower ho0 (below_size (by repeat (first | (with_reducible first | exact HB.out | apply below_alloc | apply pw_below_drewN | apply below_drew1) | exact HB.out)))); have n1_ := Aside0.mk (below_step (by repeat (first | (with_reducible first | exact HB.out | apply below_alloc | apply pw_below_drewN | apply below_drew1) | exact HB.out)) hb); clear HB; have HO116 := n0_; have HB := n1_; clear n0_ n1_; (try clear hb); (try clear hb2); (try clear hk); (try clear hi); (try clear ho0); obtain ⟨Ao23, co23, eo23⟩ := Kd.R_slice HO116.out; subst eo23))
    go_ret2
    exact ⟨_, by first | rfl | (simp [errW_none, errW_some] <;> rfl) | (simp [*, errW_none, errW_some] <;> rfl), by first | exact Kd.R_nil _ _ _ _ _ | exact Kd.N_nil _ _ _ _ _ | exact Kd.V_nil _ _ _ _ _ | exact Kd.Q_nil _ _ _ _ _ | exact Kd.S_nil _ _ _ _ _, by repeat (first | (with_reducible first | exact HB.out | apply below_alloc | apply pw_below_drewN | apply below_drew1) | exact HB.out)⟩

/-! ### letterboxlaw02_awake: function 8 -/
def letterboxlaw02_awake.f : Option Bool := some true
set_option maxHeartbeats 2000000 in
theorem letterboxlaw02_awake.calls (r : Bool) (w : World) (h : letterboxlaw02_awake.f = some r) (hL0 : b64_Letters w := by assumption) :
    Calls Tryd.prog 8 #[] w fun e w' => e = .returned (.bool r) ∧ Below w.heap.size w w' := by
  obtain rfl := Option.some.inj h
  clear h
  have kc := fun (w : World) (C : Array Value) (n c : Nat) => Lib.run_convert_bytes_const (P := Tryd.prog) w 22 5 C n c Tryd.underlying22 Tryd.underlying5
  go_enter Tryd.func8, Tryd.ntmps8
  go_wp2_with fail
  refine (b64_Decode.calls 50 (some ⟨w.heap.size, 0, none⟩) 7 [65, 65, 32, 61, 61, 13, 10] [0] true _ (Aids.const_C _ (by decide) (heap_alloc_new _ _)) (by decide) (by decide +kernel)).mono ?_
  rintro e w1 ⟨v1, rfl, hR1, hb1⟩
  obtain ⟨A1, cc1, rfl⟩ := Kd.R_slice hR1
  have HR1 := Aside0.mk hR1
  have HB1 := Aside0.mk hb1
  clear hb1 hR1
  go_wp2_with fail
  refine (b64_Decode.calls 50 (some ⟨w1.heap.size, 0, none⟩) 4 [65, 66, 61, 61] [] false _ (Aids.const_C _ (by decide) (heap_alloc_new _ _)) (by decide) (by decide +kernel)).mono ?_
  rintro e w2 ⟨v2, rfl, hR2, hb2⟩
  obtain ⟨A2, cc2, rfl⟩ := Kd.R_slice hR2
  have HB2 := Aside0.mk hb2
  clear hb2 hR2
  go_wp2_with fail
  have s1 := HB1.out.size
  have s2 := HB2.out.size
  simp at s1 s2
  have bel2 : Below w.heap.size w w2 := ((((Below.refl _ _).alloc (Nat.le_refl _) _).trans (HB1.out.mono (by simp))).alloc (by omega) _).trans (HB2.out.mono (by simp; omega))
  refine (b64_Encode.calls (some ⟨w2.heap.size, 0, none⟩) 1 [0] 0 [65, 65, 61, 61] _ (Aids.const_C _ (by decide) (heap_alloc_new _ _)) (by decide) (by decide +kernel) (b64_Letters.below hL0 (bel2.alloc (by omega) _))).mono ?_
  rintro e w3 ⟨v3, rfl, hR3, hb3⟩
  obtain ⟨A3, cc3, rfl⟩ := Kd.R_slice hR3
  have HB3 := Aside0.mk hb3
  have hcv : (convert 22 9 (.slice A3 4 cc3)).run Tryd.prog w3 = .ok (.string ⟨#[65, 65, 61, 61]⟩) w3 := own_string (P := Tryd.prog) Tryd.underlying22 Tryd.underlying5 Tryd.underlying9 (Kd.own_of_R hR3)
  have R1 := Kd.R_below (Kd.R_alloc (Kd.R_below (Kd.R_alloc HR1.out _) HB2.out) _) hb3
  obtain ⟨ad1, e1, hx1⟩ := Kd.at_int (Kd.R_reads' R1).2.2 0 (by decide) (by decide)
  cases e1
  rw [show ((0 : Int)).toNat = 0 from rfl, Addr.add_zero', show rd [0] 0 = 0 from rfl] at hx1
  clear hb3 hR3 R1
  go_wp2_with fail
  go_ret
  have s3 := HB3.out.size
  simp at s3
  refine ⟨rfl, (bel2.alloc (by omega) _).trans (HB3.out.mono (by simp; omega))⟩

/-! ### letterboxref02_letter: function 19 -/
def letterboxref02_letter.f (a0 : Int) : Option (ByteArray) := if 0 ≤ a0 then (if a0 ≤ (wrap64 (a0 + 1)) then (if (wrap64 (a0 + 1)) ≤ 64 then (some ((⟨#[65, 66, 67, 68, 69, 70, 71, 72, 73, 74, 75, 76, 77, 78, 79, 80, 81, 82, 83, 84, 85, 86, 87, 88, 89, 90, 97, 98, 99, 100, 101, 102, 103, 104, 105, 106, 107, 108, 109, 110, 111, 112, 113, 114, 115, 116, 117, 118, 119, 120, 121, 122, 48, 49, 50, 51, 52, 53, 54, 55, 56, 57, 43, 47]⟩ : ByteArray).extract (a0 : Int).toNat ((wrap64 (a0 + 1)) : Int).toNat)) else (none)) else (none)) else (none)
set_option maxHeartbeats 8000000 in
set_option maxRecDepth 100000 in
theorem letterboxref02_letter.calls (a0 : Int) (r : ByteArray) (w : World) (h : letterboxref02_letter.f a0 = some r) :
    Calls Tryd.prog 19 #[.int .i64 a0] w fun e w' => e = .returned (.string r) ∧ Drawn0 w w' := by
  have H : (if 0 ≤ a0 then (if a0 ≤ (wrap64 (a0 + 1)) then (if (wrap64 (a0 + 1)) ≤ 64 then (some ((⟨#[65, 66, 67, 68, 69, 70, 71, 72, 73, 74, 75, 76, 77, 78, 79, 80, 81, 82, 83, 84, 85, 86, 87, 88, 89, 90, 97, 98, 99, 100, 101, 102, 103, 104, 105, 106, 107, 108, 109, 110, 111, 112, 113, 114, 115, 116, 117, 118, 119, 120, 121, 122, 48, 49, 50, 51, 52, 53, 54, 55, 56, 57, 43, 47]⟩ : ByteArray).extract (a0 : Int).toNat ((wrap64 (a0 + 1)) : Int).toNat)) else (none)) else (none)) else (none)) = some r := h
  clear h
  by_cases c2 : 0 ≤ a0
  · rw [if_pos c2] at H
    have c2b0 := eq_true c2
    have c2b1 : decide (0 ≤ a0) = true := decide_eq_true c2
    clear c2
    by_cases c3 : a0 ≤ (wrap64 (a0 + 1))
    · rw [if_pos c3] at H
      have c3b0 := eq_true c3
      have c3b1 : decide (a0 ≤ (wrap64 (a0 + 1))) = true := decide_eq_true c3
      by_cases c4 : (wrap64 (a0 + 1)) ≤ 64
      · rw [if_pos c4] at H
        have c4b0 := eq_true c4
        have c4b1 : decide ((wrap64 (a0 + 1)) ≤ 64) = true := decide_eq_true c4
        obtain rfl := Option.some.inj H
        go_enter Tryd.func19, Tryd.ntmps19
        go_wp2
        go_ret
        exact ⟨by first | rfl | (simp; done) | (simp [*]; done), by repeat (first | exact Drawn0.refl _ | apply Drawn0.step)⟩
      · rw [if_neg c4] at H
        exact absurd H (by simp)
    · rw [if_neg c3] at H
      exact absurd H (by simp)
  · rw [if_neg c2] at H
    exact absurd H (by simp)

end Go.Proofs.YtnmojlolgioijaaDoor.P
