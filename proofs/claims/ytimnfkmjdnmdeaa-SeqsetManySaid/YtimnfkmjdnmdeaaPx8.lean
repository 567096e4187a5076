-- Written by a program of this session (wip/tools/mk.sh) for this claim: it runs the kit's print with contracts of our own. Lean checks it.
import Derived.Test.YtimnfkmjdnmdeaaPx0
import Derived.Test.YtimnfkmjdnmdeaaZStr
import Derived.Test.YtimnfkmjdnmdeaaPx2
import Derived.Test.YtimnfkmjdnmdeaaPx3
namespace Go.Proofs.Ytimnfkmjdnmdeaa.P
open Go.RowKit Go.Proofs.YtimnfkmjdnmdeaaW.PrintWords Go.Proofs.YtimnfkmjdnmdeaaW.PrintLast Go.Proofs.YtimnfkmjdnmdeaaW.PrintMore
attribute [-simp] Int.tmod_tmod_of_dvd
attribute [local go_sem] max2_int min2_int max_two min_two max_three min_three max_four min_four   -- for this text's walks alone
set_option linter.unusedVariables false
set_option linter.unusedSimpArgs false

/-! ### letterboxlaw21_SeqsetMany: function 6 -/
mutual
def letterboxlaw21_SeqsetMany.l0 : Nat → Bool → Int → ByteArray → Int → Option (Bool)
  | 0, _, _, _, _ => none
  | k + 1, x1, x6, x7, x8 => if x8 < x6 then (if x8 > 0 then (if x7.size + 1 ≤ 9223372036854775807 then (if (x7 ++ (⟨#[44]⟩ : ByteArray)).size + 1 ≤ 9223372036854775807 then (letterboxlaw21_SeqsetMany.l0 k x1 x6 ((x7 ++ (⟨#[44]⟩ : ByteArray)) ++ (⟨#[55]⟩ : ByteArray)) (wrap64 (x8 + 1))) else (none)) else (none)) else (if x7.size + 1 ≤ 9223372036854775807 then (letterboxlaw21_SeqsetMany.l0 k x1 x6 (x7 ++ (⟨#[55]⟩ : ByteArray)) (wrap64 (x8 + 1))) else (none))) else (if x1 = true then (if x7.size + 2 ≤ 9223372036854775807 then (letterboxlaw21_SeqsetMany.j1 k x1 x6 (x7 ++ (⟨#[58, 42]⟩ : ByteArray))) else (none)) else (letterboxlaw21_SeqsetMany.j1 k x1 x6 x7))
def letterboxlaw21_SeqsetMany.j1 : Nat → Bool → Int → ByteArray → Option (Bool)
  | 0, _, _, _ => none
  | k + 1, x1, x6, x7 => (seqset_Parse.f k x7).bind fun bt288 => (if x7.size + 1 ≤ 9223372036854775807 then ((seqset_Parse.f k (x7 ++ (⟨#[44]⟩ : ByteArray))).bind fun bt292 => (if x6 > 1000 then (if bt288.2 = 13 then (if (bt288.1.length : Int) = 0 then (some (bt292.2 == 50)) else (some false)) else (some false)) else (if bt288.2 = 0 then (if (bt288.1.length : Int) = x6 then (if 0 ≤ (wrap64 (x6 - 1)) then (if (wrap64 (x6 - 1)) < (bt288.1.length : Int) then (if ((((rd_T32 bt288.1 (wrap64 (x6 - 1))).f1) == 0) == x1) = true then (some (bt292.2 == 50)) else (some false)) else (none)) else (none)) else (some false)) else (some false)))) else (none))
end
def letterboxlaw21_SeqsetMany.f (k : Nat) (a0 : Int) (a1 : Bool) : Option (Bool) := (letterboxlaw21_awake.f k).bind fun t287 => (if t287 = true then (letterboxlaw21_SeqsetMany.l0 k a1 (wrap64 ((wrap64 (Int.tmod a0 30)) + 985)) (⟨#[]⟩ : ByteArray) 0) else (some false))
theorem letterboxlaw21_SeqsetMany.mono_l : ∀ k, (∀ y0 y1 y2 y3, LeO (letterboxlaw21_SeqsetMany.l0 k y0 y1 y2 y3) (letterboxlaw21_SeqsetMany.l0 (k + 1) y0 y1 y2 y3)) ∧ (∀ y0 y1 y2, LeO (letterboxlaw21_SeqsetMany.j1 k y0 y1 y2) (letterboxlaw21_SeqsetMany.j1 (k + 1) y0 y1 y2))
  | 0 => ⟨fun _ _ _ _ r h => by simp [letterboxlaw21_SeqsetMany.l0] at h, fun _ _ _ r h => by simp [letterboxlaw21_SeqsetMany.j1] at h⟩
  | k + 1 => by
    obtain ⟨ih0, ih1⟩ := letterboxlaw21_SeqsetMany.mono_l k
    refine ⟨?_, ?_⟩
    · intro y0 y1 y2 y3
      unfold letterboxlaw21_SeqsetMany.l0
      repeat' first
      | (with_reducible exact ih0 _ _ _ _)
      | (with_reducible exact ih1 _ _ _)
      | (with_reducible exact letterboxlaw21_awake.mono _)
      | (with_reducible exact seqset_Parse.mono _ _)
      | (with_reducible exact LeO.refl _)
      | (with_reducible exact LeO.none _)
      | (with_reducible refine LeO.ite ?_ ?_)
      | (with_reducible refine LeO.bind ?_ (fun _ => ?_))
      | exact ih0 _ _ _ _
      | exact ih1 _ _ _
      | exact letterboxlaw21_awake.mono _
      | exact seqset_Parse.mono _ _
      | exact LeO.none _
      | refine LeO.ite ?_ ?_
      | refine LeO.bind ?_ (fun _ => ?_)
    · intro y0 y1 y2
      unfold letterboxlaw21_SeqsetMany.j1
      repeat' first
      | (with_reducible exact ih0 _ _ _ _)
      | (with_reducible exact ih1 _ _ _)
      | (with_reducible exact letterboxlaw21_awake.mono _)
      | (with_reducible exact seqset_Parse.mono _ _)
      | (with_reducible exact LeO.refl _)
      | (with_reducible exact LeO.none _)
      | (with_reducible refine LeO.ite ?_ ?_)
      | (with_reducible refine LeO.bind ?_ (fun _ => ?_))
      | exact ih0 _ _ _ _
      | exact ih1 _ _ _
      | exact letterboxlaw21_awake.mono _
      | exact seqset_Parse.mono _ _
      | exact LeO.none _
      | refine LeO.ite ?_ ?_
      | refine LeO.bind ?_ (fun _ => ?_)
theorem letterboxlaw21_SeqsetMany.mono : ∀ a0 a1 k, LeO (letterboxlaw21_SeqsetMany.f k a0 a1) (letterboxlaw21_SeqsetMany.f (k + 1) a0 a1) := by
  intro a0 a1 k
  obtain ⟨ih0, ih1⟩ := letterboxlaw21_SeqsetMany.mono_l k
  unfold letterboxlaw21_SeqsetMany.f
  repeat' first
      | (with_reducible exact ih0 _ _ _ _)
      | (with_reducible exact ih1 _ _ _)
      | (with_reducible exact letterboxlaw21_awake.mono _)
      | (with_reducible exact seqset_Parse.mono _ _)
      | (with_reducible exact LeO.refl _)
      | (with_reducible exact LeO.none _)
      | (with_reducible refine LeO.ite ?_ ?_)
      | (with_reducible refine LeO.bind ?_ (fun _ => ?_))
      | exact ih0 _ _ _ _
      | exact ih1 _ _ _
      | exact letterboxlaw21_awake.mono _
      | exact seqset_Parse.mono _ _
      | exact LeO.none _
      | refine LeO.ite ?_ ?_
      | refine LeO.bind ?_ (fun _ => ?_)
set_option maxHeartbeats 8000000 in
set_option maxRecDepth 100000 in
theorem letterboxlaw21_SeqsetMany.calls (k : Nat) (a0 : Int) (a1 : Bool) (r : Bool) (w : World) (h : letterboxlaw21_SeqsetMany.f k a0 a1 = some r) :
    Calls Try.prog 6 #[.int .u16 a0, .bool a1] w fun e w' => e = .returned (.bool r) ∧ Below w.heap.size w w' := by
  have HB := Aside0.mk (Below.refl w.heap.size w)
  have H : ((letterboxlaw21_awake.f k).bind fun t287 => (if t287 = true then (letterboxlaw21_SeqsetMany.l0 k a1 (wrap64 ((wrap64 (Int.tmod a0 30)) + 985)) (⟨#[]⟩ : ByteArray) 0) else (some false))) = some r := h
  clear h
  replace H := Option.bind_eq_some_iff.mp H
  obtain ⟨t287, A30, H⟩ := H
  replace H : (if t287 = true then (letterboxlaw21_SeqsetMany.l0 k a1 (wrap64 ((wrap64 (Int.tmod a0 30)) + 985)) (⟨#[]⟩ : ByteArray) 0) else (some false)) = some r := H
  have A3 := Aside0.mk A30
  clear A30
  by_cases c4 : t287 = true
  · subst c4
    have H1 : (letterboxlaw21_SeqsetMany.l0 k a1 (wrap64 ((wrap64 (Int.tmod a0 30)) + 985)) (⟨#[]⟩ : ByteArray) 0) = some r := by rw [if_pos rfl] at H; exact H
    clear H
    have H := H1
    clear H1
    have H' := Aside0.mk H
    clear H
    go_enter Try.func6, Try.ntmps6
    go_wp2_with (first | ((with_reducible refine gate_callee (f := 7) rfl ?_); refine goesL_ (some 13) rfl rfl Try.func7 (by kernel_rfl) rfl #[] rfl (by (try simp only [List.map_toArray, List.map_cons, List.map_nil]); first | done | rfl | (simp only [List.length_drop, List.length_take]; rfl)) ?_; (with_reducible refine (letterboxlaw21_awake.calls k  true _ A3.out).mono ?_); rintro e w5 ⟨rfl, hb⟩; refine ⟨_, rfl, ?_⟩; have n0_ := Aside0.mk (below_step (by repeat (first | (with_reducible first | exact HB.out | apply below_alloc | apply pw_below_drewN | apply below_drew1) | exact HB.out)) hb); clear HB; have HB := n0_; clear n0_; (try clear hb); (try clear hb2); (try clear hk); (try clear hi)))
    go_loopg [7, 8] k (fun kq v7 v8 w' => ∃ (x7_1 : ByteArray) (x8_1 : Int), v7 = .string x7_1 ∧ v8 = .int .i64 x8_1 ∧ Aside0 (letterboxlaw21_SeqsetMany.l0 kq a1 (wrap64 ((wrap64 (Int.tmod a0 30)) + 985)) x7_1 x8_1 = some r) ∧ Aside0 (kq ≤ k) ∧ Aside0 (Below w.heap.size w w'))
    case atStart => exact ⟨((⟨#[]⟩ : ByteArray)), (0), (by first | rfl | (simp; done) | (simp [*]; done)), (by first | rfl | (simp; done) | (simp [*]; done)), H', ⟨Nat.le_refl _⟩, ⟨by repeat (first | (with_reducible first | exact HB.out | apply below_alloc | apply pw_below_drewN | apply below_drew1) | exact HB.out)⟩⟩
    case round =>
      clear H'
      try clear p2
      try clear c4
      obtain ⟨x7_1, x8_1, rfl, rfl, HA, HK1, HB⟩ := hrel
      cases gk with
      | zero => exact absurd HA.out (by simp [letterboxlaw21_SeqsetMany.l0])
      | succ k1 =>
        have H := HA.out
        clear HA
        simp only [letterboxlaw21_SeqsetMany.l0] at H
        by_cases c6 : x8_1 < (wrap64 ((wrap64 (Int.tmod a0 30)) + 985))
        · rw [if_pos c6] at H
          have c6b0 : decide (x8_1 < (wrap64 ((wrap64 (Int.tmod a0 30)) + 985))) = true := decide_eq_true c6
          clear c6
          by_cases c7 : x8_1 > 0
          · rw [if_pos c7] at H
            have c7b0 : decide (0 < x8_1) = true := decide_eq_true c7
            clear c7
            by_cases c8 : x7_1.size + 1 ≤ 9223372036854775807
            · rw [if_pos c8] at H
              have c8b0 := eq_true c8
              have c8b1 : decide (x7_1.size + 1 ≤ 9223372036854775807) = true := decide_eq_true c8
              try have c8b2 : (9223372036854775807 < x7_1.size + 1) = False := eq_false (Nat.not_lt.2 c8)
              by_cases c9 : (x7_1 ++ (⟨#[44]⟩ : ByteArray)).size + 1 ≤ 9223372036854775807
              · rw [if_pos c9] at H
                have c9b0 := eq_true c9
                have c9b1 : decide ((x7_1 ++ (⟨#[44]⟩ : ByteArray)).size + 1 ≤ 9223372036854775807) = true := decide_eq_true c9
                try have c9b2 : (9223372036854775807 < (x7_1 ++ (⟨#[44]⟩ : ByteArray)).size + 1) = False := eq_false (Nat.not_lt.2 c9)
                try have c9b4 : (9223372036854775807 < x7_1.size + 1 + 1) = False := eq_false (Nat.not_lt.2 (by have h_ := c9; simp only [ByteArray.size_append] at h_; exact h_))
                have H' := Aside0.mk H
                clear H
                go_wp2
                go_roundg k1
                case measure => have := HK1.out; omega
                case rel => exact ⟨((x7_1 ++ (⟨#[44]⟩ : ByteArray)) ++ (⟨#[55]⟩ : ByteArray)), (wrap64 (x8_1 + 1)), (by first | rfl | (simp; done) | (simp [*]; done)), (by first | rfl | (simp; done) | (simp [*]; done)), H', ⟨by have := HK1.out; omega⟩, ⟨by repeat (first | (with_reducible first | exact HB.out | apply below_alloc | apply pw_below_drewN | apply below_drew1) | exact HB.out)⟩⟩
              · rw [if_neg c9] at H
                exact absurd H (by simp)
            · rw [if_neg c8] at H
              exact absurd H (by simp)
          · rw [if_neg c7] at H
            have c7b0 : decide (0 < x8_1) = false := decide_eq_false c7
            clear c7
            by_cases c10 : x7_1.size + 1 ≤ 9223372036854775807
            · rw [if_pos c10] at H
              have c10b0 := eq_true c10
              have c10b1 : decide (x7_1.size + 1 ≤ 9223372036854775807) = true := decide_eq_true c10
              try have c10b2 : (9223372036854775807 < x7_1.size + 1) = False := eq_false (Nat.not_lt.2 c10)
              have H' := Aside0.mk H
              clear H
              go_wp2
              go_roundg k1
              case measure => have := HK1.out; omega
              case rel => exact ⟨(x7_1 ++ (⟨#[55]⟩ : ByteArray)), (wrap64 (x8_1 + 1)), (by first | rfl | (simp; done) | (simp [*]; done)), (by first | rfl | (simp; done) | (simp [*]; done)), H', ⟨by have := HK1.out; omega⟩, ⟨by repeat (first | (with_reducible first | exact HB.out | apply below_alloc | apply pw_below_drewN | apply below_drew1) | exact HB.out)⟩⟩
            · rw [if_neg c10] at H
              exact absurd H (by simp)
        · rw [if_neg c6] at H
          have c6b0 : decide (x8_1 < (wrap64 ((wrap64 (Int.tmod a0 30)) + 985))) = false := decide_eq_false c6
          clear c6
          have HC11 := Aside0.mk H
          clear H
          go_upto_if 31 with (fail)
          go_cut [7] (fun v7 wc => ∃ (kq : Nat) (x7_10 : ByteArray), v7 = .string x7_10 ∧ Aside0 (letterboxlaw21_SeqsetMany.j1 kq a1 (wrap64 ((wrap64 (Int.tmod a0 30)) + 985)) x7_10 = some r) ∧ Aside0 (kq ≤ k1) ∧ Aside0 (Below w.heap.size w wc))
          case first =>
            have H := HC11.out
            clear HC11
            by_cases c12 : a1 = true
            · subst c12
              have H1 : (if x7_1.size + 2 ≤ 9223372036854775807 then (letterboxlaw21_SeqsetMany.j1 k1 true (wrap64 ((wrap64 (Int.tmod a0 30)) + 985)) (x7_1 ++ (⟨#[58, 42]⟩ : ByteArray))) else (none)) = some r := by rw [if_pos rfl] at H; exact H
              clear H
              have H := H1
              clear H1
              by_cases c13 : x7_1.size + 2 ≤ 9223372036854775807
              · rw [if_pos c13] at H
                have c13b0 := eq_true c13
                have c13b1 : decide (x7_1.size + 2 ≤ 9223372036854775807) = true := decide_eq_true c13
                try have c13b2 : (9223372036854775807 < x7_1.size + 2) = False := eq_false (Nat.not_lt.2 c13)
                have H' := Aside0.mk H
                clear H
                go_wp2
                go_meet
                case rel => exact ⟨_, (x7_1 ++ (⟨#[58, 42]⟩ : ByteArray)), (by first | rfl | (simp; done) | (simp [*]; done)), H', ⟨by have := HK1.out; first | omega | exact Nat.le_refl _⟩, ⟨by repeat (first | (with_reducible first | exact HB.out | apply below_alloc | apply pw_below_drewN | apply below_drew1) | exact HB.out)⟩⟩
              · rw [if_neg c13] at H
                exact absurd H (by simp)
            · replace c12 := Bool.eq_false_iff.mpr c12
              subst c12
              have H1 : (letterboxlaw21_SeqsetMany.j1 k1 false (wrap64 ((wrap64 (Int.tmod a0 30)) + 985)) x7_1) = some r := by rw [if_neg (show ¬ (false = true) by decide)] at H; exact H
              clear H
              have H := H1
              clear H1
              have H' := Aside0.mk H
              clear H
              go_wp2
              go_meet
              case rel => exact ⟨_, (x7_1), (by first | rfl | (simp; done) | (simp [*]; done)), H', ⟨by have := HK1.out; first | omega | exact Nat.le_refl _⟩, ⟨by repeat (first | (with_reducible first | exact HB.out | apply below_alloc | apply pw_below_drewN | apply below_drew1) | exact HB.out)⟩⟩
          case rest =>
            clear HC11
            try clear c1
            try clear p2
            try clear c4
            try clear c6
            try clear c6b0
            try clear p6
            try clear c7
            try clear c7b0
            try clear c8
            try clear c8b0
            try clear c8b1
            try clear c8b2
            try clear c9
            try clear c9b0
            try clear c9b1
            try clear c9b2
            try clear c10
            try clear c10b0
            try clear c10b1
            try clear c10b2
            try clear c12
            try clear c13
            try clear c13b0
            try clear c13b1
            try clear c13b2
            try clear p2
            obtain ⟨kq, x7_10, rfl, HA, HJ10, HB⟩ := hcut
            cases kq with
            | zero => exact absurd HA.out (by simp [letterboxlaw21_SeqsetMany.j1])
            | succ kj10 =>
              have H := HA.out
              clear HA
              simp only [letterboxlaw21_SeqsetMany.j1] at H
              replace H := Option.bind_eq_some_iff.mp H
              obtain ⟨⟨t288, t289⟩, A140, H⟩ := H
              replace H : (if x7_10.size + 1 ≤ 9223372036854775807 then ((seqset_Parse.f kj10 (x7_10 ++ (⟨#[44]⟩ : ByteArray))).bind fun bt292 => (if (wrap64 ((wrap64 (Int.tmod a0 30)) + 985)) > 1000 then (if t289 = 13 then (if (t288.length : Int) = 0 then (some (bt292.2 == 50)) else (some false)) else (some false)) else (if t289 = 0 then (if (t288.length : Int) = (wrap64 ((wrap64 (Int.tmod a0 30)) + 985)) then (if 0 ≤ (wrap64 ((wrap64 ((wrap64 (Int.tmod a0 30)) + 985)) - 1)) then (if (wrap64 ((wrap64 ((wrap64 (Int.tmod a0 30)) + 985)) - 1)) < (t288.length : Int) then (if ((((rd_T32 t288 (wrap64 ((wrap64 ((wrap64 (Int.tmod a0 30)) + 985)) - 1))).f1) == 0) == a1) = true then (some (bt292.2 == 50)) else (some false)) else (none)) else (none)) else (some false)) else (some false)))) else (none)) = some r := H
              have A14 := Aside0.mk A140
              clear A140
              by_cases c15 : x7_10.size + 1 ≤ 9223372036854775807
              · rw [if_pos c15] at H
                have c15b0 := eq_true c15
                have c15b1 : decide (x7_10.size + 1 ≤ 9223372036854775807) = true := decide_eq_true c15
                try have c15b2 : (9223372036854775807 < x7_10.size + 1) = False := eq_false (Nat.not_lt.2 c15)
                replace H := Option.bind_eq_some_iff.mp H
                obtain ⟨⟨t292, t293⟩, A160, H⟩ := H
                replace H : (if (wrap64 ((wrap64 (Int.tmod a0 30)) + 985)) > 1000 then (if t289 = 13 then (if (t288.length : Int) = 0 then (some (t293 == 50)) else (some false)) else (some false)) else (if t289 = 0 then (if (t288.length : Int) = (wrap64 ((wrap64 (Int.tmod a0 30)) + 985)) then (if 0 ≤ (wrap64 ((wrap64 ((wrap64 (Int.tmod a0 30)) + 985)) - 1)) then (if (wrap64 ((wrap64 ((wrap64 (Int.tmod a0 30)) + 985)) - 1)) < (t288.length : Int) then (if ((((rd_T32 t288 (wrap64 ((wrap64 ((wrap64 (Int.tmod a0 30)) + 985)) - 1))).f1) == 0) == a1) = true then (some (t293 == 50)) else (some false)) else (none)) else (none)) else (some false)) else (some false))) = some r := H
                have A16 := Aside0.mk A160
                clear A160
                by_cases c17 : (wrap64 ((wrap64 (Int.tmod a0 30)) + 985)) > 1000
                · rw [if_pos c17] at H
                  have c17b0 : decide (1000 < (wrap64 ((wrap64 (Int.tmod a0 30)) + 985))) = true := decide_eq_true c17
                  clear c17
                  by_cases c18 : t289 = 13
                  · rw [if_pos c18] at H
                    have c18b0 : (t289 == 13) = true := beq_iff_eq.mpr c18
                    have c18b1 : (t289 != 13) = false := bne_eq_false_iff_eq.mpr c18
                    clear c18
                    by_cases c19 : (t288.length : Int) = 0
                    · rw [if_pos c19] at H
                      have c19b0 : ((t288.length : Int) == 0) = true := beq_iff_eq.mpr c19
                      have c19b1 : ((t288.length : Int) != 0) = false := bne_eq_false_iff_eq.mpr c19
                      clear c19
                      obtain rfl := Option.some.inj H
                      go_wp2_with (first | ((with_reducible refine gate_callee (f := 8) rfl ?_); refine goesL_ (some 36) rfl rfl Try.func8 (by kernel_rfl) rfl #[.string x7_10] rfl (by (try simp only [List.map_toArray, List.map_cons, List.map_nil]); first | done | rfl | (simp only [List.length_drop, List.length_take]; rfl)) ?_; (with_reducible refine (seqset_Parse.calls kj10 x7_10 t288 t289 _ A14.out).mono ?_); rintro e w20 ⟨v290, rfl, ho0, hb⟩; refine ⟨_, rfl, ?_⟩; have n0_ := Aside0.mk (Kd.R_lower ho0 (below_size (by repeat (first | (with_reducible first | exact HB.out | apply below_alloc | apply pw_below_drewN | apply below_drew1) | exact HB.out)))); have n1_ := Aside0.mk (below_step (by repeat (first | (with_reducible first | exact HB.out | apply below_alloc | apply pw_below_drewN | apply below_drew1) | exact HB.out)) hb); clear HB; have HO291 := n0_; have HB := n1_; clear n0_ n1_; (try clear hb); (try clear hb2); (try clear hk); (try clear hi); (try clear ho0)) | ((with_reducible refine gate_callee (f := 8) rfl ?_); refine goesL_ (some 42) rfl rfl Try.func8 (by kernel_rfl) rfl #[.string (x7_10 ++ (⟨#[44]⟩ : ByteArray))] rfl (by (try simp only [List.map_toArray, List.map_cons, List.map_nil]); first | done | rfl | (simp only [List.length_drop, List.length_take]; rfl)) ?_; (with_reducible refine (seqset_Parse.calls kj10 (x7_10 ++ (⟨#[44]⟩ : ByteArray)) t292 t293 _ A16.out).mono ?_); rintro e w21 ⟨v294, rfl, ho0, hb⟩; refine ⟨_, rfl, ?_⟩; have n0_ := Aside0.mk (Kd.R_elder' (by (with_reducible repeat (first | apply Kd.R_alloc | apply Kd.R_drewN | apply Kd.R_drew)); exact HO291.out) (Kd.R_base ho0) hb); have n1_ := Aside0.mk (Kd.R_lower (Kd.R_new' ho0 (Kd.R_lt (by (with_reducible repeat (first | apply Kd.R_alloc | apply Kd.R_drewN | apply Kd.R_drew)); exact HO291.out))) (below_size (by repeat (first | (with_reducible first | exact HB.out | apply below_alloc | apply pw_below_drewN | apply below_drew1) | exact HB.out)))); have n2_ := Aside0.mk (below_step (by repeat (first | (with_reducible first | exact HB.out | apply below_alloc | apply pw_below_drewN | apply below_drew1) | exact HB.out)) hb); clear HO291; clear HB; have HO291 := n0_; have HO295 := n1_; have HB := n2_; clear n0_ n1_ n2_; (try clear hb); (try clear hb2); (try clear hk); (try clear hi); (try clear ho0); obtain ⟨Ao22, co22, eo22⟩ := Kd.R_slice HO291.out; subst eo22))
                      go_ret
                      exact ⟨by first | rfl | (simp [errW_none, errW_some] <;> rfl) | (simp [*, errW_none, errW_some] <;> rfl), by repeat (first | (with_reducible first | exact HB.out | apply below_alloc | apply pw_below_drewN | apply below_drew1) | exact HB.out)⟩
                    · rw [if_neg c19] at H
                      have c19b0 : ((t288.length : Int) == 0) = false := beq_eq_false_iff_ne.mpr c19
                      have c19b1 : ((t288.length : Int) != 0) = true := bne_iff_ne.mpr c19
                      have c19b2 : ¬ (t288 = []) := fun h_ => c19 (by rw [h_]; rfl)
                      obtain rfl := Option.some.inj H
                      go_wp2_with (first | ((with_reducible refine gate_callee (f := 8) rfl ?_); refine goesL_ (some 36) rfl rfl Try.func8 (by kernel_rfl) rfl #[.string x7_10] rfl (by (try simp only [List.map_toArray, List.map_cons, List.map_nil]); first | done | rfl | (simp only [List.length_drop, List.length_take]; rfl)) ?_; (with_reducible refine (seqset_Parse.calls kj10 x7_10 t288 t289 _ A14.out).mono ?_); rintro e w23 ⟨v290, rfl, ho0, hb⟩; refine ⟨_, rfl, ?_⟩; have n0_ := Aside0.mk (Kd.R_lower ho0 (below_size (by repeat (first | (with_reducible first | exact HB.out | apply below_alloc | apply pw_below_drewN | apply below_drew1) | exact HB.out)))); have n1_ := Aside0.mk (below_step (by repeat (first | (with_reducible first | exact HB.out | apply below_alloc | apply pw_below_drewN | apply below_drew1) | exact HB.out)) hb); clear HB; have HO291 := n0_; have HB := n1_; clear n0_ n1_; (try clear hb); (try clear hb2); (try clear hk); (try clear hi); (try clear ho0)) | ((with_reducible refine gate_callee (f := 8) rfl ?_); refine goesL_ (some 42) rfl rfl Try.func8 (by kernel_rfl) rfl #[.string (x7_10 ++ (⟨#[44]⟩ : ByteArray))] rfl (by (try simp only [List.map_toArray, List.map_cons, List.map_nil]); first | done | rfl | (simp only [List.length_drop, List.length_take]; rfl)) ?_; (with_reducible refine (seqset_Parse.calls kj10 (x7_10 ++ (⟨#[44]⟩ : ByteArray)) t292 t293 _ A16.out).mono ?_); rintro e w24 ⟨v294, rfl, ho0, hb⟩; refine ⟨_, rfl, ?_⟩; have n0_ := Aside0.mk (Kd.R_elder' (by (with_reducible repeat (first | apply Kd.R_alloc | apply Kd.R_drewN | apply Kd.R_drew)); exact HO291.out) (Kd.R_base ho0) hb); have n1_ := Aside0.mk (Kd.R_lower (Kd.R_new' ho0 (Kd.R_lt (by (with_reducible repeat (first | apply Kd.R_alloc | apply Kd.R_drewN | apply Kd.R_drew)); exact HO291.out))) (below_size (by repeat (first | (with_reducible first | exact HB.out | apply below_alloc | apply pw_below_drewN | apply below_drew1) | exact HB.out)))); have n2_ := Aside0.mk (below_step (by repeat (first | (with_reducible first | exact HB.out | apply below_alloc | apply pw_below_drewN | apply below_drew1) | exact HB.out)) hb); clear HO291; clear HB; have HO291 := n0_; have HO295 := n1_; have HB := n2_; clear n0_ n1_ n2_; (try clear hb); (try clear hb2); (try clear hk); (try clear hi); (try clear ho0); obtain ⟨Ao25, co25, eo25⟩ := Kd.R_slice HO291.out; subst eo25))
                      go_ret
                      exact ⟨by first | rfl | (simp [errW_none, errW_some] <;> rfl) | (simp [*, errW_none, errW_some] <;> rfl), by repeat (first | (with_reducible first | exact HB.out | apply below_alloc | apply pw_below_drewN | apply below_drew1) | exact HB.out)⟩
                  · rw [if_neg c18] at H
                    have c18b0 : (t289 == 13) = false := beq_eq_false_iff_ne.mpr c18
                    have c18b1 : (t289 != 13) = true := bne_iff_ne.mpr c18
                    obtain rfl := Option.some.inj H
                    go_wp2_with (first | ((with_reducible refine gate_callee (f := 8) rfl ?_); refine goesL_ (some 36) rfl rfl Try.func8 (by kernel_rfl) rfl #[.string x7_10] rfl (by (try simp only [List.map_toArray, List.map_cons, List.map_nil]); first | done | rfl | (simp only [List.length_drop, List.length_take]; rfl)) ?_; (with_reducible refine (seqset_Parse.calls kj10 x7_10 t288 t289 _ A14.out).mono ?_); rintro e w26 ⟨v290, rfl, ho0, hb⟩; refine ⟨_, rfl, ?_⟩; have n0_ := Aside0.mk (Kd.R_lower ho0 (below_size (by repeat (first | (with_reducible first | exact HB.out | apply below_alloc | apply pw_below_drewN | apply below_drew1) | exact HB.out)))); have n1_ := Aside0.mk (below_step (by repeat (first | (with_reducible first | exact HB.out | apply below_alloc | apply pw_below_drewN | apply below_drew1) | exact HB.out)) hb); clear HB; have HO291 := n0_; have HB := n1_; clear n0_ n1_; (try clear hb); (try clear hb2); (try clear hk); (try clear hi); (try clear ho0)) | ((with_reducible refine gate_callee (f := 8) rfl ?_); refine goesL_ (some 42) rfl rfl Try.func8 (by kernel_rfl) rfl #[.string (x7_10 ++ (⟨#[44]⟩ : ByteArray))] rfl (by (try simp only [List.map_toArray, List.map_cons, List.map_nil]); first | done | rfl | (simp only [List.length_drop, List.length_take]; rfl)) ?_; (with_reducible refine (seqset_Parse.calls kj10 (x7_10 ++ (⟨#[44]⟩ : ByteArray)) t292 t293 _ A16.out).mono ?_); rintro e w27 ⟨v294, rfl, ho0, hb⟩; refine ⟨_, rfl, ?_⟩; have n0_ := Aside0.mk (Kd.R_elder' (by (with_reducible repeat (first | apply Kd.R_alloc | apply Kd.R_drewN | apply Kd.R_drew)); exact HO291.out) (Kd.R_base ho0) hb); have n1_ := Aside0.mk (Kd.R_lower (Kd.R_new' ho0 (Kd.R_lt (by (with_reducible repeat (first | apply Kd.R_alloc | apply Kd.R_drewN | apply Kd.R_drew)); exact HO291.out))) (below_size (by repeat (first | (with_reducible first | exact HB.out | apply below_alloc | apply pw_below_drewN | apply below_drew1) | exact HB.out)))); have n2_ := Aside0.mk (below_step (by repeat (first | (with_reducible first | exact HB.out | apply below_alloc | apply pw_below_drewN | apply below_drew1) | exact HB.out)) hb); clear HO291; clear HB; have HO291 := n0_; have HO295 := n1_; have HB := n2_; clear n0_ n1_ n2_; (try clear hb); (try clear hb2); (try clear hk); (try clear hi); (try clear ho0)))
                    go_ret
                    exact ⟨by first | rfl | (simp [errW_none, errW_some] <;> rfl) | (simp [*, errW_none, errW_some] <;> rfl), by repeat (first | (with_reducible first | exact HB.out | apply below_alloc | apply pw_below_drewN | apply below_drew1) | exact HB.out)⟩
                · rw [if_neg c17] at H
                  have c17b0 : decide (1000 < (wrap64 ((wrap64 (Int.tmod a0 30)) + 985))) = false := decide_eq_false c17
                  clear c17
                  by_cases c28 : t289 = 0
                  · rw [if_pos c28] at H
                    have c28b0 : (t289 == 0) = true := beq_iff_eq.mpr c28
                    have c28b1 : (t289 != 0) = false := bne_eq_false_iff_eq.mpr c28
                    clear c28
                    by_cases c29 : (t288.length : Int) = (wrap64 ((wrap64 (Int.tmod a0 30)) + 985))
                    · rw [if_pos c29] at H
                      have c29b0 : ((t288.length : Int) == (wrap64 ((wrap64 (Int.tmod a0 30)) + 985))) = true := beq_iff_eq.mpr c29
                      have c29b1 : ((t288.length : Int) != (wrap64 ((wrap64 (Int.tmod a0 30)) + 985))) = false := bne_eq_false_iff_eq.mpr c29
                      clear c29
                      obtain ⟨ji30, hji30⟩ : ∃ j_ : Int, (wrap64 ((wrap64 ((wrap64 (Int.tmod a0 30)) + 985)) - 1)) = j_ := ⟨_, rfl⟩
                      replace H : (if 0 ≤ (ji30) then (if (ji30) < (t288.length : Int) then (if ((((rd_T32 t288 (ji30)).f1) == 0) == a1) = true then (some (t293 == 50)) else (some false)) else (none)) else (none)) = some r := by first | (rw [hji30] at H; exact H) | (simp only [hji30] at H ⊢; exact H)
                      (try rw [hji30] at A14)
                      (try rw [hji30] at A16)
                      have hji30w : (IntKind.i64.wrap ((wrap64 ((wrap64 (Int.tmod a0 30)) + 985)) - 1)) = ji30 := (i64_w _).trans hji30
                      by_cases c31 : 0 ≤ (ji30)
                      · rw [if_pos c31] at H
                        have c31b0 : decide (0 ≤ (ji30)) = true := decide_eq_true c31
                        clear c31
                        by_cases c32 : (ji30) < (t288.length : Int)
                        · rw [if_pos c32] at H
                          have c32b0 : decide ((ji30) < (t288.length : Int)) = true := decide_eq_true c32
                          clear c32
                          by_cases c33 : ((((rd_T32 t288 (ji30)).f1) == 0) == a1) = true
                          · rw [if_pos c33] at H
                            have c33b0 : ((((rd_T32 t288 (ji30)).f1) == 0) == a1) = true := c33
                            (try (have c33b1 : decide ((((rd_T32 t288 (ji30)).f1) == 0) = a1) = true := by simpa using c33))
                            (try (have c33b2 : ((((rd_T32 t288 (ji30)).f1) == 0) == a1) = true := by simpa using c33))
                            clear c33
                            obtain rfl := Option.some.inj H
                            go_wp2_with (first | ((with_reducible refine gate_callee (f := 8) rfl ?_); refine goesL_ (some 36) rfl rfl Try.func8 (by kernel_rfl) rfl #[.string x7_10] rfl (by (try simp only [List.map_toArray, List.map_cons, List.map_nil]); first | done | rfl | (simp only [List.length_drop, List.length_take]; rfl)) ?_; (with_reducible refine (seqset_Parse.calls kj10 x7_10 t288 t289 _ A14.out).mono ?_); rintro e w34 ⟨v290, rfl, ho0, hb⟩; refine ⟨_, rfl, ?_⟩; have n0_ := Aside0.mk (Kd.R_lower ho0 (below_size (by repeat (first | (with_reducible first | exact HB.out | apply below_alloc | apply pw_below_drewN | apply below_drew1) | exact HB.out)))); have n1_ := Aside0.mk (below_step (by repeat (first | (with_reducible first | exact HB.out | apply below_alloc | apply pw_below_drewN | apply below_drew1) | exact HB.out)) hb); clear HB; have HO291 := n0_; have HB := n1_; clear n0_ n1_; (try clear hb); (try clear hb2); (try clear hk); (try clear hi); (try clear ho0)) | ((with_reducible refine gate_callee (f := 8) rfl ?_); refine goesL_ (some 42) rfl rfl Try.func8 (by kernel_rfl) rfl #[.string (x7_10 ++ (⟨#[44]⟩ : ByteArray))] rfl (by (try simp only [List.map_toArray, List.map_cons, List.map_nil]); first | done | rfl | (simp only [List.length_drop, List.length_take]; rfl)) ?_; (with_reducible refine (seqset_Parse.calls kj10 (x7_10 ++ (⟨#[44]⟩ : ByteArray)) t292 t293 _ A16.out).mono ?_); rintro e w35 ⟨v294, rfl, ho0, hb⟩; refine ⟨_, rfl, ?_⟩; have n0_ := Aside0.mk (Kd.R_elder' (by (with_reducible repeat (first | apply Kd.R_alloc | apply Kd.R_drewN | apply Kd.R_drew)); exact HO291.out) (Kd.R_base ho0) hb); have n1_ := Aside0.mk (Kd.R_lower (Kd.R_new' ho0 (Kd.R_lt (by (with_reducible repeat (first | apply Kd.R_alloc | apply Kd.R_drewN | apply Kd.R_drew)); exact HO291.out))) (below_size (by repeat (first | (with_reducible first | exact HB.out | apply below_alloc | apply pw_below_drewN | apply below_drew1) | exact HB.out)))); have n2_ := Aside0.mk (below_step (by repeat (first | (with_reducible first | exact HB.out | apply below_alloc | apply pw_below_drewN | apply below_drew1) | exact HB.out)) hb); clear HO291; clear HB; have HO291 := n0_; have HO295 := n1_; have HB := n2_; clear n0_ n1_ n2_; (try clear hb); (try clear hb2); (try clear hk); (try clear hi); (try clear ho0); obtain ⟨Ao36, co36, eo36⟩ := Kd.R_slice HO291.out; subst eo36; have p296 : 0 ≤ ((ji30) : Int) := of_decide_eq_true (by first | (with_reducible assumption) | assumption); have q296 : (ji30) < (t288.length : Int) := of_decide_eq_true (by first | (with_reducible assumption) | assumption); obtain ⟨ad296, e296, hx296_0, hx296_1⟩ := at_T32 (Kd.R_reads' HO291.out).2.2 (ji30) p296 q296; cases e296; replace p296 := eq_true p296; replace q296 := eq_true q296))
                            go_ret
                            exact ⟨by first | rfl | (simp [errW_none, errW_some] <;> rfl) | (simp only [← hji30]; first | rfl | (simp [errW_none, errW_some] <;> rfl)) | (simp [*, errW_none, errW_some] <;> rfl), by repeat (first | (with_reducible first | exact HB.out | apply below_alloc | apply pw_below_drewN | apply below_drew1) | exact HB.out)⟩
                          · rw [if_neg c33] at H
                            have c33b0 : ((((rd_T32 t288 (ji30)).f1) == 0) == a1) = false := by simpa using c33
                            (try (have c33b1 : decide ((((rd_T32 t288 (ji30)).f1) == 0) = a1) = false := by simpa using c33))
                            (try (have c33b2 : ((((rd_T32 t288 (ji30)).f1) == 0) == a1) = false := by simpa using c33))
                            (try (have c33b3 : ¬ ((((rd_T32 t288 (ji30)).f1) == 0) = a1) := by simpa using c33))
                            clear c33
                            obtain rfl := Option.some.inj H
                            go_wp2_with (first | ((with_reducible refine gate_callee (f := 8) rfl ?_); refine goesL_ (some 36) rfl rfl Try.func8 (by kernel_rfl) rfl #[.string x7_10] rfl (by (try simp only [List.map_toArray, List.map_cons, List.map_nil]); first | done | rfl | (simp only [List.length_drop, List.length_take]; rfl)) ?_; (with_reducible refine (seqset_Parse.calls kj10 x7_10 t288 t289 _ A14.out).mono ?_); rintro e w37 ⟨v290, rfl, ho0, hb⟩; refine ⟨_, rfl, ?_⟩; have n0_ := Aside0.mk (Kd.R_lower ho0 (below_size (by repeat (first | (with_reducible first | exact HB.out | apply below_alloc | apply pw_below_drewN | apply below_drew1) | exact HB.out)))); have n1_ := Aside0.mk (below_step (by repeat (first | (with_reducible first | exact HB.out | apply below_alloc | apply pw_below_drewN | apply below_drew1) | exact HB.out)) hb); clear HB; have HO291 := n0_; have HB := n1_; clear n0_ n1_; (try clear hb); (try clear hb2); (try clear hk); (try clear hi); (try clear ho0)) | ((with_reducible refine gate_callee (f := 8) rfl ?_); refine goesL_ (some 42) rfl rfl Try.func8 (by kernel_rfl) rfl #[.string (x7_10 ++ (⟨#[44]⟩ : ByteArray))] rfl (by (try simp only [List.map_toArray, List.map_cons, List.map_nil]); first | done | rfl | (simp only [List.length_drop, List.length_take]; rfl)) ?_; (with_reducible refine (seqset_Parse.calls kj10 (x7_10 ++ (⟨#[44]⟩ : ByteArray)) t292 t293 _ A16.out).mono ?_); rintro e w38 ⟨v294, rfl, ho0, hb⟩; refine ⟨_, rfl, ?_⟩; have n0_ := Aside0.mk (Kd.R_elder' (by (with_reducible repeat (first | apply Kd.R_alloc | apply Kd.R_drewN | apply Kd.R_drew)); exact HO291.out) (Kd.R_base ho0) hb); have n1_ := Aside0.mk (Kd.R_lower (Kd.R_new' ho0 (Kd.R_lt (by (with_reducible repeat (first | apply Kd.R_alloc | apply Kd.R_drewN | apply Kd.R_drew)); exact HO291.out))) (below_size (by repeat (first | (with_reducible first | exact HB.out | apply below_alloc | apply pw_below_drewN | apply below_drew1) | exact HB.out)))); have n2_ := Aside0.mk (below_step (by repeat (first | (with_reducible first | exact HB.out | apply below_alloc | apply pw_below_drewN | apply below_drew1) | exact HB.out)) hb); clear HO291; clear HB; have HO291 := n0_; have HO295 := n1_; have HB := n2_; clear n0_ n1_ n2_; (try clear hb); (try clear hb2); (try clear hk); (try clear hi); (try clear ho0); obtain ⟨Ao39, co39, eo39⟩ := Kd.R_slice HO291.out; subst eo39; have p296 : 0 ≤ ((ji30) : Int) := of_decide_eq_true (by first | (with_reducible assumption) | assumption); have q296 : (ji30) < (t288.length : Int) := of_decide_eq_true (by first | (with_reducible assumption) | assumption); obtain ⟨ad296, e296, hx296_0, hx296_1⟩ := at_T32 (Kd.R_reads' HO291.out).2.2 (ji30) p296 q296; cases e296; replace p296 := eq_true p296; replace q296 := eq_true q296))
                            go_ret
                            exact ⟨by first | rfl | (simp [errW_none, errW_some] <;> rfl) | (simp only [← hji30]; first | rfl | (simp [errW_none, errW_some] <;> rfl)) | (simp [*, errW_none, errW_some] <;> rfl), by repeat (first | (with_reducible first | exact HB.out | apply below_alloc | apply pw_below_drewN | apply below_drew1) | exact HB.out)⟩
                        · rw [if_neg c32] at H
                          exact absurd H (by simp)
                      · rw [if_neg c31] at H
                        exact absurd H (by simp)
                    · rw [if_neg c29] at H
                      have c29b0 : ((t288.length : Int) == (wrap64 ((wrap64 (Int.tmod a0 30)) + 985))) = false := beq_eq_false_iff_ne.mpr c29
                      have c29b1 : ((t288.length : Int) != (wrap64 ((wrap64 (Int.tmod a0 30)) + 985))) = true := bne_iff_ne.mpr c29
                      obtain rfl := Option.some.inj H
                      go_wp2_with (first | ((with_reducible refine gate_callee (f := 8) rfl ?_); refine goesL_ (some 36) rfl rfl Try.func8 (by kernel_rfl) rfl #[.string x7_10] rfl (by (try simp only [List.map_toArray, List.map_cons, List.map_nil]); first | done | rfl | (simp only [List.length_drop, List.length_take]; rfl)) ?_; (with_reducible refine (seqset_Parse.calls kj10 x7_10 t288 t289 _ A14.out).mono ?_); rintro e w40 ⟨v290, rfl, ho0, hb⟩; refine ⟨_, rfl, ?_⟩; have n0_ := Aside0.mk (Kd.R_lower ho0 (below_size (by repeat (first | (with_reducible first | exact HB.out | apply below_alloc | apply pw_below_drewN | apply below_drew1) | exact HB.out)))); have n1_ := Aside0.mk (below_step (by repeat (first | (with_reducible first | exact HB.out | apply below_alloc | apply pw_below_drewN | apply below_drew1) | exact HB.out)) hb); clear HB; have HO291 := n0_; have HB := n1_; clear n0_ n1_; (try clear hb); (try clear hb2); (try clear hk); (try clear hi); (try clear ho0)) | ((with_reducible refine gate_callee (f := 8) rfl ?_); refine goesL_ (some 42) rfl rfl Try.func8 (by kernel_rfl) rfl #[.string (x7_10 ++ (⟨#[44]⟩ : ByteArray))] rfl (by (try simp only [List.map_toArray, List.map_cons, List.map_nil]); first | done | rfl | (simp only [List.length_drop, List.length_take]; rfl)) ?_; (with_reducible refine (seqset_Parse.calls kj10 (x7_10 ++ (⟨#[44]⟩ : ByteArray)) t292 t293 _ A16.out).mono ?_); rintro e w41 ⟨v294, rfl, ho0, hb⟩; refine ⟨_, rfl, ?_⟩; have n0_ := Aside0.mk (Kd.R_elder' (by (with_reducible repeat (first | apply Kd.R_alloc | apply Kd.R_drewN | apply Kd.R_drew)); exact HO291.out) (Kd.R_base ho0) hb); have n1_ := Aside0.mk (Kd.R_lower (Kd.R_new' ho0 (Kd.R_lt (by (with_reducible repeat (first | apply Kd.R_alloc | apply Kd.R_drewN | apply Kd.R_drew)); exact HO291.out))) (below_size (by repeat (first | (with_reducible first | exact HB.out | apply below_alloc | apply pw_below_drewN | apply below_drew1) | exact HB.out)))); have n2_ := Aside0.mk (below_step (by repeat (first | (with_reducible first | exact HB.out | apply below_alloc | apply pw_below_drewN | apply below_drew1) | exact HB.out)) hb); clear HO291; clear HB; have HO291 := n0_; have HO295 := n1_; have HB := n2_; clear n0_ n1_ n2_; (try clear hb); (try clear hb2); (try clear hk); (try clear hi); (try clear ho0); obtain ⟨Ao42, co42, eo42⟩ := Kd.R_slice HO291.out; subst eo42))
                      go_ret
                      exact ⟨by first | rfl | (simp [errW_none, errW_some] <;> rfl) | (simp [*, errW_none, errW_some] <;> rfl), by repeat (first | (with_reducible first | exact HB.out | apply below_alloc | apply pw_below_drewN | apply below_drew1) | exact HB.out)⟩
                  · rw [if_neg c28] at H
                    have c28b0 : (t289 == 0) = false := beq_eq_false_iff_ne.mpr c28
                    have c28b1 : (t289 != 0) = true := bne_iff_ne.mpr c28
                    obtain rfl := Option.some.inj H
                    go_wp2_with (first | ((with_reducible refine gate_callee (f := 8) rfl ?_); refine goesL_ (some 36) rfl rfl Try.func8 (by kernel_rfl) rfl #[.string x7_10] rfl (by (try simp only [List.map_toArray, List.map_cons, List.map_nil]); first | done | rfl | (simp only [List.length_drop, List.length_take]; rfl)) ?_; (with_reducible refine (seqset_Parse.calls kj10 x7_10 t288 t289 _ A14.out).mono ?_); rintro e w43 ⟨v290, rfl, ho0, hb⟩; refine ⟨_, rfl, ?_⟩; have n0_ := Aside0.mk (Kd.R_lower ho0 (below_size (by repeat (first | (with_reducible first | exact HB.out | apply below_alloc | apply pw_below_drewN | apply below_drew1) | exact HB.out)))); have n1_ := Aside0.mk (below_step (by repeat (first | (with_reducible first | exact HB.out | apply below_alloc | apply pw_below_drewN | apply below_drew1) | exact HB.out)) hb); clear HB; have HO291 := n0_; have HB := n1_; clear n0_ n1_; (try clear hb); (try clear hb2); (try clear hk); (try clear hi); (try clear ho0)) | ((with_reducible refine gate_callee (f := 8) rfl ?_); refine goesL_ (some 42) rfl rfl Try.func8 (by kernel_rfl) rfl #[.string (x7_10 ++ (⟨#[44]⟩ : ByteArray))] rfl (by (try simp only [List.map_toArray, List.map_cons, List.map_nil]); first | done | rfl | (simp only [List.length_drop, List.length_take]; rfl)) ?_; (with_reducible refine (seqset_Parse.calls kj10 (x7_10 ++ (⟨#[44]⟩ : ByteArray)) t292 t293 _ A16.out).mono ?_); rintro e w44 ⟨v294, rfl, ho0, hb⟩; refine ⟨_, rfl, ?_⟩; have n0_ := Aside0.mk (Kd.R_elder' (by (with_reducible repeat (first | apply Kd.R_alloc | apply Kd.R_drewN | apply Kd.R_drew)); exact HO291.out) (Kd.R_base ho0) hb); have n1_ := Aside0.mk (Kd.R_lower (Kd.R_new' ho0 (Kd.R_lt (by (with_reducible repeat (first | apply Kd.R_alloc | apply Kd.R_drewN | apply Kd.R_drew)); exact HO291.out))) (below_size (by repeat (first | (with_reducible first | exact HB.out | apply below_alloc | apply pw_below_drewN | apply below_drew1) | exact HB.out)))); have n2_ := Aside0.mk (below_step (by repeat (first | (with_reducible first | exact HB.out | apply below_alloc | apply pw_below_drewN | apply below_drew1) | exact HB.out)) hb); clear HO291; clear HB; have HO291 := n0_; have HO295 := n1_; have HB := n2_; clear n0_ n1_ n2_; (try clear hb); (try clear hb2); (try clear hk); (try clear hi); (try clear ho0)))
                    go_ret
                    exact ⟨by first | rfl | (simp [errW_none, errW_some] <;> rfl) | (simp [*, errW_none, errW_some] <;> rfl), by repeat (first | (with_reducible first | exact HB.out | apply below_alloc | apply pw_below_drewN | apply below_drew1) | exact HB.out)⟩
              · rw [if_neg c15] at H
                exact absurd H (by simp)
  · replace c4 := Bool.eq_false_iff.mpr c4
    subst c4
    have H1 : (some false) = some r := by rw [if_neg (show ¬ (false = true) by decide)] at H; exact H
    clear H
    have H := H1
    clear H1
    obtain rfl := Option.some.inj H
    go_enter Try.func6, Try.ntmps6
    go_wp2_with (first | ((with_reducible refine gate_callee (f := 7) rfl ?_); refine goesL_ (some 13) rfl rfl Try.func7 (by kernel_rfl) rfl #[] rfl (by (try simp only [List.map_toArray, List.map_cons, List.map_nil]); first | done | rfl | (simp only [List.length_drop, List.length_take]; rfl)) ?_; (with_reducible refine (letterboxlaw21_awake.calls k  false _ A3.out).mono ?_); rintro e w45 ⟨rfl, hb⟩; refine ⟨_, rfl, ?_⟩; have n0_ := Aside0.mk (below_step (by repeat (first | (with_reducible first | exact HB.out | apply below_alloc | apply pw_below_drewN | apply below_drew1) | exact HB.out)) hb); clear HB; have HB := n0_; clear n0_; (try clear hb); (try clear hb2); (try clear hk); (try clear hi)))
    go_ret
    exact ⟨by first | rfl | (simp [errW_none, errW_some] <;> rfl) | (simp [*, errW_none, errW_some] <;> rfl), by repeat (first | (with_reducible first | exact HB.out | apply below_alloc | apply pw_below_drewN | apply below_drew1) | exact HB.out)⟩

/-- THE ONE PURE STATEMENT of letterboxlaw21_SeqsetMany: yours. -/
def letterboxlaw21_SeqsetMany.Pure : Prop := ∀ (a0 : Int) (a1 : Bool), (Lit.int .u16 a0).wf = true → ∃ k, letterboxlaw21_SeqsetMany.f k a0 a1 = some true
theorem letterboxlaw21_SeqsetMany.walk (P : letterboxlaw21_SeqsetMany.Pure) (a0 : Int) (a1 : Bool) (w : World) (w0 : (Lit.int .u16 a0).wf = true) :
    Calls Try.prog 6 #[.int .u16 a0, .bool a1] w fun e w' => e = .returned (.bool true) ∧ Below w.heap.size w w' := by
  obtain ⟨k, h⟩ := P a0 a1 w0
  refine (letterboxlaw21_SeqsetMany.calls k a0 a1 true w h).mono ?_
  rintro e w' ⟨rfl, hd⟩
  exact ⟨rfl, hd⟩

end Go.Proofs.Ytimnfkmjdnmdeaa.P
