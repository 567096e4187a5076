-- Written by a program of this session (wip/tools/mk.sh) for this claim: it runs the kit's print with contracts of our own. Lean checks it.
import Derived.Test.YtannphcahjchjaaPx0
import Derived.Test.YtannphcahjchjaaPx1
import Derived.Test.YtannphcahjchjaaPx2
namespace Go.Proofs.Ytannphcahjchjaa.P
open Go.RowKit Go.Proofs.YtannphcahjchjaaW.PrintWords Go.Proofs.YtannphcahjchjaaW.PrintLast Go.Proofs.YtannphcahjchjaaW.PrintMore
attribute [local go_sem] max2_int min2_int max_two min_two max_three min_three max_four min_four   -- for this text's walks alone
set_option linter.unusedVariables false
set_option linter.unusedSimpArgs false

/-! ### letterboxlaw01_CharsJoins: function 4 -/
mutual
def letterboxlaw01_CharsJoins.l0 : Nat → ByteArray → Int → List ByteArray → ByteArray → Int → Option (Bool)
  | 0, _, _, _, _, _ => none
  | k + 1, x0, x1, x6, x7, x8 => if x8 < (x6.length : Int) then (if x8 > 0 then ((some (([x1] : List Int) : List Int)).bind fun y135 => (if x7.size + (strOfNums y135).size ≤ 9223372036854775807 then (letterboxlaw01_CharsJoins.j1 k x0 x1 x6 (x7 ++ (strOfNums y135)) x8) else (none))) else (letterboxlaw01_CharsJoins.j1 k x0 x1 x6 x7 x8)) else (if x7.toList = x0.toList then (some (decide ((x6.length : Int) ≥ 1))) else (some false))
def letterboxlaw01_CharsJoins.j1 : Nat → ByteArray → Int → List ByteArray → ByteArray → Int → Option (Bool)
  | 0, _, _, _, _, _ => none
  | k + 1, x0, x1, x6, x7, x8 => letterboxlaw01_CharsJoins.l1 k x0 x1 x6 x7 x8 0
def letterboxlaw01_CharsJoins.l1 : Nat → ByteArray → Int → List ByteArray → ByteArray → Int → Int → Option (Bool)
  | 0, _, _, _, _, _, _ => none
  | k + 1, x0, x1, x6, x7, x8, x9 => if 0 ≤ x8 then (if x8 < (x6.length : Int) then (if x9 < ((rdOf ByteArray.empty x6 x8).size : Int) then (if 0 ≤ x9 then (if (bt (rdOf ByteArray.empty x6 x8) x9) = x1 then (some false) else (letterboxlaw01_CharsJoins.l1 k x0 x1 x6 x7 x8 (wrap64 (x9 + 1)))) else (none)) else (if x7.size + (rdOf ByteArray.empty x6 x8).size ≤ 9223372036854775807 then (letterboxlaw01_CharsJoins.l0 k x0 x1 x6 (x7 ++ (rdOf ByteArray.empty x6 x8)) (wrap64 (x8 + 1))) else (none))) else (none)) else (none)
end
def letterboxlaw01_CharsJoins.f (k : Nat) (a0 : ByteArray) (a1 : Int) : Option (Bool) := (letterboxlaw01_awake.f k).bind fun t131 => (if t131 = true then (if (a0.size : Int) > 500 then (some true) else ((chars_Split.f k a0 a1).bind fun t132 => (letterboxlaw01_CharsJoins.l0 k a0 a1 t132 (⟨#[]⟩ : ByteArray) 0))) else (some false))
theorem letterboxlaw01_CharsJoins.mono_l : ∀ k, (∀ y0 y1 y2 y3 y4, LeO (letterboxlaw01_CharsJoins.l0 k y0 y1 y2 y3 y4) (letterboxlaw01_CharsJoins.l0 (k + 1) y0 y1 y2 y3 y4)) ∧ (∀ y0 y1 y2 y3 y4, LeO (letterboxlaw01_CharsJoins.j1 k y0 y1 y2 y3 y4) (letterboxlaw01_CharsJoins.j1 (k + 1) y0 y1 y2 y3 y4)) ∧ (∀ y0 y1 y2 y3 y4 y5, LeO (letterboxlaw01_CharsJoins.l1 k y0 y1 y2 y3 y4 y5) (letterboxlaw01_CharsJoins.l1 (k + 1) y0 y1 y2 y3 y4 y5))
  | 0 => ⟨fun _ _ _ _ _ r h => by simp [letterboxlaw01_CharsJoins.l0] at h, fun _ _ _ _ _ r h => by simp [letterboxlaw01_CharsJoins.j1] at h, fun _ _ _ _ _ _ r h => by simp [letterboxlaw01_CharsJoins.l1] at h⟩
  | k + 1 => by
    obtain ⟨ih0, ih1, ih2⟩ := letterboxlaw01_CharsJoins.mono_l k
    refine ⟨?_, ?_, ?_⟩
    · intro y0 y1 y2 y3 y4
      unfold letterboxlaw01_CharsJoins.l0
      repeat' first
      | (with_reducible exact ih0 _ _ _ _ _)
      | (with_reducible exact ih1 _ _ _ _ _)
      | (with_reducible exact ih2 _ _ _ _ _ _)
      | (with_reducible exact chars_Split.mono _ _ _)
      | (with_reducible exact letterboxlaw01_awake.mono _)
      | (with_reducible exact LeO.refl _)
      | (with_reducible exact LeO.none _)
      | (with_reducible refine LeO.ite ?_ ?_)
      | (with_reducible refine LeO.bind ?_ (fun _ => ?_))
      | exact ih0 _ _ _ _ _
      | exact ih1 _ _ _ _ _
      | exact ih2 _ _ _ _ _ _
      | exact chars_Split.mono _ _ _
      | exact letterboxlaw01_awake.mono _
      | exact LeO.none _
      | refine LeO.ite ?_ ?_
      | refine LeO.bind ?_ (fun _ => ?_)
    · intro y0 y1 y2 y3 y4
      unfold letterboxlaw01_CharsJoins.j1
      repeat' first
      | (with_reducible exact ih0 _ _ _ _ _)
      | (with_reducible exact ih1 _ _ _ _ _)
      | (with_reducible exact ih2 _ _ _ _ _ _)
      | (with_reducible exact chars_Split.mono _ _ _)
      | (with_reducible exact letterboxlaw01_awake.mono _)
      | (with_reducible exact LeO.refl _)
      | (with_reducible exact LeO.none _)
      | (with_reducible refine LeO.ite ?_ ?_)
      | (with_reducible refine LeO.bind ?_ (fun _ => ?_))
      | exact ih0 _ _ _ _ _
      | exact ih1 _ _ _ _ _
      | exact ih2 _ _ _ _ _ _
      | exact chars_Split.mono _ _ _
      | exact letterboxlaw01_awake.mono _
      | exact LeO.none _
      | refine LeO.ite ?_ ?_
      | refine LeO.bind ?_ (fun _ => ?_)
    · intro y0 y1 y2 y3 y4 y5
      unfold letterboxlaw01_CharsJoins.l1
      repeat' first
      | (with_reducible exact ih0 _ _ _ _ _)
      | (with_reducible exact ih1 _ _ _ _ _)
      | (with_reducible exact ih2 _ _ _ _ _ _)
      | (with_reducible exact chars_Split.mono _ _ _)
      | (with_reducible exact letterboxlaw01_awake.mono _)
      | (with_reducible exact LeO.refl _)
      | (with_reducible exact LeO.none _)
      | (with_reducible refine LeO.ite ?_ ?_)
      | (with_reducible refine LeO.bind ?_ (fun _ => ?_))
      | exact ih0 _ _ _ _ _
      | exact ih1 _ _ _ _ _
      | exact ih2 _ _ _ _ _ _
      | exact chars_Split.mono _ _ _
      | exact letterboxlaw01_awake.mono _
      | exact LeO.none _
      | refine LeO.ite ?_ ?_
      | refine LeO.bind ?_ (fun _ => ?_)
theorem letterboxlaw01_CharsJoins.mono : ∀ a0 a1 k, LeO (letterboxlaw01_CharsJoins.f k a0 a1) (letterboxlaw01_CharsJoins.f (k + 1) a0 a1) := by
  intro a0 a1 k
  obtain ⟨ih0, ih1, ih2⟩ := letterboxlaw01_CharsJoins.mono_l k
  unfold letterboxlaw01_CharsJoins.f
  repeat' first
      | (with_reducible exact ih0 _ _ _ _ _)
      | (with_reducible exact ih1 _ _ _ _ _)
      | (with_reducible exact ih2 _ _ _ _ _ _)
      | (with_reducible exact chars_Split.mono _ _ _)
      | (with_reducible exact letterboxlaw01_awake.mono _)
      | (with_reducible exact LeO.refl _)
      | (with_reducible exact LeO.none _)
      | (with_reducible refine LeO.ite ?_ ?_)
      | (with_reducible refine LeO.bind ?_ (fun _ => ?_))
      | exact ih0 _ _ _ _ _
      | exact ih1 _ _ _ _ _
      | exact ih2 _ _ _ _ _ _
      | exact chars_Split.mono _ _ _
      | exact letterboxlaw01_awake.mono _
      | exact LeO.none _
      | refine LeO.ite ?_ ?_
      | refine LeO.bind ?_ (fun _ => ?_)
set_option maxHeartbeats 8000000 in
set_option maxRecDepth 100000 in
theorem letterboxlaw01_CharsJoins.calls (k : Nat) (a0 : ByteArray) (a1 : Int) (r : Bool) (w : World) (h : letterboxlaw01_CharsJoins.f k a0 a1 = some r) :
    Calls Try.prog 4 #[.string a0, .int .u8 a1] w fun e w' => e = .returned (.bool r) ∧ Below w.heap.size w w' := by
  have HB := Aside0.mk (Below.refl w.heap.size w)
  have H : ((letterboxlaw01_awake.f k).bind fun t131 => (if t131 = true then (if (a0.size : Int) > 500 then (some true) else ((chars_Split.f k a0 a1).bind fun t132 => (letterboxlaw01_CharsJoins.l0 k a0 a1 t132 (⟨#[]⟩ : ByteArray) 0))) else (some false))) = some r := h
  clear h
  replace H := Option.bind_eq_some_iff.mp H
  obtain ⟨t131, A30, H⟩ := H
  replace H : (if t131 = true then (if (a0.size : Int) > 500 then (some true) else ((chars_Split.f k a0 a1).bind fun t132 => (letterboxlaw01_CharsJoins.l0 k a0 a1 t132 (⟨#[]⟩ : ByteArray) 0))) else (some false)) = some r := H
  have A3 := Aside0.mk A30
  clear A30
  by_cases c4 : t131 = true
  · subst c4
    have H1 : (if (a0.size : Int) > 500 then (some true) else ((chars_Split.f k a0 a1).bind fun t132 => (letterboxlaw01_CharsJoins.l0 k a0 a1 t132 (⟨#[]⟩ : ByteArray) 0))) = some r := by rw [if_pos rfl] at H; exact H
    clear H
    have H := H1
    clear H1
    by_cases c5 : (a0.size : Int) > 500
    · rw [if_pos c5] at H
      have c5b0 : decide (500 < (a0.size : Int)) = true := decide_eq_true c5
      have c5b1 : decide (500 < a0.size) = true := decide_eq_true (by omega)
      clear c5
      obtain rfl := Option.some.inj H
      go_enter Try.func4, Try.ntmps4
      go_wp2_with (first | ((with_reducible refine gate_callee (f := 9) rfl ?_); refine goesL_ (some 10) rfl rfl Try.func9 (by kernel_rfl) rfl #[] rfl (by (try simp only [List.map_toArray, List.map_cons, List.map_nil]); first | done | rfl | (simp only [List.length_drop, List.length_take]; rfl)) ?_; (with_reducible refine (letterboxlaw01_awake.calls k  true _ A3.out).mono ?_); rintro e w6 ⟨rfl, hb⟩; refine ⟨_, rfl, ?_⟩; have n0_ := Aside0.mk (below_step (by repeat (first | (with_reducible first | exact HB.out | apply below_alloc | apply pw_below_drewN | apply below_drew1) | exact HB.out)) hb); clear HB; have HB := n0_; clear n0_; (try clear hb); (try clear hb2); (try clear hk); (try clear hi)))
      go_ret
      exact ⟨by first | rfl | (simp [errW_none, errW_some] <;> rfl) | (simp [*, errW_none, errW_some] <;> rfl), by repeat (first | (with_reducible first | exact HB.out | apply below_alloc | apply pw_below_drewN | apply below_drew1) | exact HB.out)⟩
    · rw [if_neg c5] at H
      have c5b0 : decide (500 < (a0.size : Int)) = false := decide_eq_false c5
      have c5b1 : decide (500 < a0.size) = false := decide_eq_false (by omega)
      clear c5
      replace H := Option.bind_eq_some_iff.mp H
      obtain ⟨t132, A70, H⟩ := H
      replace H : (letterboxlaw01_CharsJoins.l0 k a0 a1 t132 (⟨#[]⟩ : ByteArray) 0) = some r := H
      have A7 := Aside0.mk A70
      clear A70
      have H' := Aside0.mk H
      clear H
      go_enter Try.func4, Try.ntmps4
      go_wp2_with (first | ((with_reducible refine gate_callee (f := 9) rfl ?_); refine goesL_ (some 10) rfl rfl Try.func9 (by kernel_rfl) rfl #[] rfl (by (try simp only [List.map_toArray, List.map_cons, List.map_nil]); first | done | rfl | (simp only [List.length_drop, List.length_take]; rfl)) ?_; (with_reducible refine (letterboxlaw01_awake.calls k  true _ A3.out).mono ?_); rintro e w8 ⟨rfl, hb⟩; refine ⟨_, rfl, ?_⟩; have n0_ := Aside0.mk (below_step (by repeat (first | (with_reducible first | exact HB.out | apply below_alloc | apply pw_below_drewN | apply below_drew1) | exact HB.out)) hb); clear HB; have HB := n0_; clear n0_; (try clear hb); (try clear hb2); (try clear hk); (try clear hi)) | ((with_reducible refine gate_callee (f := 13) rfl ?_); refine goesL_ (some 18) rfl rfl Try.func13 (by kernel_rfl) rfl #[.string a0, .int .u8 a1] rfl (by (try simp only [List.map_toArray, List.map_cons, List.map_nil]); first | done | rfl | (simp only [List.length_drop, List.length_take]; rfl)) ?_; (with_reducible refine (chars_Split.calls k a0 a1 t132 _ A7.out).mono ?_); rintro e w9 ⟨v133, rfl, ho0, hb⟩; refine ⟨_, rfl, ?_⟩; have n0_ := Aside0.mk (Kd.R_lower ho0 (below_size (by repeat (first | (with_reducible first | exact HB.out | apply below_alloc | apply pw_below_drewN | apply below_drew1) | exact HB.out)))); have n1_ := Aside0.mk (below_step (by repeat (first | (with_reducible first | exact HB.out | apply below_alloc | apply pw_below_drewN | apply below_drew1) | exact HB.out)) hb); clear HB; have HO134 := n0_; have HB := n1_; clear n0_ n1_; (try clear hb); (try clear hb2); (try clear hk); (try clear hi); (try clear ho0)))
      go_loopg [7, 8] k (fun kq v7 v8 w' => ∃ (x7_1 : ByteArray) (x8_1 : Int), v7 = .string x7_1 ∧ v8 = .int .i64 x8_1 ∧ Aside0 (letterboxlaw01_CharsJoins.l0 kq a0 a1 t132 x7_1 x8_1 = some r) ∧ Aside0 (kq ≤ k) ∧ Aside0 (Kd.R Kd.string 9 w' w.heap.size (fun _ => True) v133 t132) ∧ Aside0 (Below w.heap.size w w'))
      case atStart => exact ⟨((⟨#[]⟩ : ByteArray)), (0), (by first | rfl | (simp; done) | (simp [*]; done)), (by first | rfl | (simp; done) | (simp [*]; done)), H', ⟨Nat.le_refl _⟩, ⟨by (with_reducible repeat (first | apply Kd.R_alloc | apply Kd.R_drewN | apply Kd.R_drew)); exact HO134.out⟩, ⟨by repeat (first | (with_reducible first | exact HB.out | apply below_alloc | apply pw_below_drewN | apply below_drew1) | exact HB.out)⟩⟩
      case round =>
        clear H'
        try clear c1
        try clear p2
        try clear c4
        try clear c5
        try clear c5b0
        try clear c5b1
        try clear c9
        obtain ⟨x7_1, x8_1, rfl, rfl, HA, HK1, HO_6, HB⟩ := hrel
        cases gk with
        | zero => exact absurd HA.out (by simp [letterboxlaw01_CharsJoins.l0])
        | succ k1 =>
          have H := HA.out
          clear HA
          simp only [letterboxlaw01_CharsJoins.l0] at H
          by_cases c10 : x8_1 < (t132.length : Int)
          · rw [if_pos c10] at H
            have c10b0 : decide (x8_1 < (t132.length : Int)) = true := decide_eq_true c10
            clear c10
            have HC11 := Aside0.mk H
            clear H
            obtain ⟨Ao12, co12, eo12⟩ := Kd.R_slice HO_6.out
            subst eo12
            go_upto_if 26 with (fail)
            go_cut [7] (fun v7 wc => ∃ (kq : Nat) (x7_10 : ByteArray), v7 = .string x7_10 ∧ Aside0 (letterboxlaw01_CharsJoins.j1 kq a0 a1 t132 x7_10 x8_1 = some r) ∧ Aside0 (kq ≤ k1) ∧ Aside0 (Kd.R Kd.string 9 wc w.heap.size (fun _ => True) (.slice Ao12 t132.length co12) t132) ∧ Aside0 (Below w.heap.size w wc))
            case first =>
              have H := HC11.out
              clear HC11
              by_cases c13 : x8_1 > 0
              · rw [if_pos c13] at H
                have c13b0 : decide (0 < x8_1) = true := decide_eq_true c13
                clear c13
                (first | rw [c13b0] | (simp only [i64_w, i32_w]; rw [c13b0]) | skip)
                obtain ⟨y135, hy135⟩ : ∃ y_ : List Int, y_ = (([a1] : List Int)) := ⟨_, rfl⟩
                replace H : (if x7_1.size + (strOfNums y135).size ≤ 9223372036854775807 then (letterboxlaw01_CharsJoins.j1 k1 a0 a1 t132 (x7_1 ++ (strOfNums y135)) x8_1) else (none)) = some r := by first | (rw [hy135]; with_reducible exact H) | (have H2_ := (Option.bind_some _ _).symm.trans H; rw [hy135]; with_reducible exact H2_) | (have H2_ := (Option.bind_some _ _).symm.trans H; with_reducible exact H2_) | with_reducible exact H | (rw [hy135]; exact H) | exact H
                have Ny135 := Aside0.mk hy135
                clear hy135
                by_cases c14 : x7_1.size + (strOfNums y135).size ≤ 9223372036854775807
                · rw [if_pos c14] at H
                  have c14b0 := eq_true c14
                  have c14b1 : decide (x7_1.size + (strOfNums y135).size ≤ 9223372036854775807) = true := decide_eq_true c14
                  try have c14b2 : (9223372036854775807 < x7_1.size + (strOfNums y135).size) = False := eq_false (Nat.not_lt.2 c14)
                  have H' := Aside0.mk H
                  clear H
                  go_wp2_with (first | ((with_reducible refine gate_dst (N := 29) rfl ?_); (try (refine gate_guard (by rfl) ?_; dsimp only)); refine Kd.R_lit (Kd.int .u8) _ 5 ?hg (N := 29) ?hd (xs := ([a1] : List Int)) (inner := [.int .u8 a1]) (ok := fun _ => True) (okp := fun _ => True) ?hr ?hp (fun _ hk => hk) trivial (Below.refl _ _) (Nat.le_refl _) (by simp) ?_; (case hd => rfl); (case hg => rfl); (case hr => first | (go_simp; done) | (go_simp; rfl)); (case hp => exact (Reps.one (show Kd.M (Kd.int .u8) _ _ _ a1 [.int .u8 a1] from rfl) (Reps.none _ _))); intro v136 w15 ho16 hb hg_ hnew_; clear hg_ hnew_; (first | rw [← Ny135.out] at ho16 | (simp only [Int.reduceToNat] at ho16; rw [← Ny135.out] at ho16)); have n0_ := Aside0.mk (Kd.R_below (by (with_reducible repeat (first | apply Kd.R_alloc | apply Kd.R_drewN | apply Kd.R_drew)); exact HO_6.out) hb); have n1_ := Aside0.mk (Kd.R_lower ho16 (below_size (by repeat (first | (with_reducible first | exact HB.out | apply below_alloc | apply pw_below_drewN | apply below_drew1) | exact HB.out)))); have n2_ := Aside0.mk (below_step (by repeat (first | (with_reducible first | exact HB.out | apply below_alloc | apply pw_below_drewN | apply below_drew1) | exact HB.out)) hb); clear HO_6; clear HB; have HO_6 := n0_; have HO137 := n1_; have HB := n2_; clear n0_ n1_ n2_; clear hb ho16; have hcv17 := fun n_ : Nat => own_string (P := Try.prog) Try.underlying29 Try.underlying5 Try.underlying9 (Kd.own_of_R (Kd.R_drewN HO137.out n_)); have hcv18 := fun m_ n_ : Nat => own_string (P := Try.prog) Try.underlying29 Try.underlying5 Try.underlying9 (Kd.own_of_R (Kd.R_drewN (Kd.R_drewN HO137.out m_) n_)); have hcv19 := own_string (P := Try.prog) Try.underlying29 Try.underlying5 Try.underlying9 (Kd.own_of_R HO137.out)))
                  go_meet
                  case rel => exact ⟨_, (x7_1 ++ (strOfNums y135)), (by first | rfl | (simp; done) | (simp [*]; done)), H', ⟨by have := HK1.out; first | omega | exact Nat.le_refl _⟩, ⟨by (with_reducible repeat (first | apply Kd.R_alloc | apply Kd.R_drewN | apply Kd.R_drew)); exact HO_6.out⟩, ⟨by repeat (first | (with_reducible first | exact HB.out | apply below_alloc | apply pw_below_drewN | apply below_drew1) | exact HB.out)⟩⟩
                · rw [if_neg c14] at H
                  exact absurd H (by simp)
              · rw [if_neg c13] at H
                have c13b0 : decide (0 < x8_1) = false := decide_eq_false c13
                clear c13
                (first | rw [c13b0] | (simp only [i64_w, i32_w]; rw [c13b0]) | skip)
                have H' := Aside0.mk H
                clear H
                go_wp2
                go_meet
                case rel => exact ⟨_, (x7_1), (by first | rfl | (simp; done) | (simp [*]; done)), H', ⟨by have := HK1.out; first | omega | exact Nat.le_refl _⟩, ⟨by (with_reducible repeat (first | apply Kd.R_alloc | apply Kd.R_drewN | apply Kd.R_drew)); exact HO_6.out⟩, ⟨by repeat (first | (with_reducible first | exact HB.out | apply below_alloc | apply pw_below_drewN | apply below_drew1) | exact HB.out)⟩⟩
            case rest =>
              clear HC11
              try clear c1
              try clear hcv1
              try clear p2
              try clear c4
              try clear c5
              try clear c5b0
              try clear c5b1
              try clear c9
              try clear c10
              try clear c10b0
              try clear c13
              try clear c13b0
              try clear c14
              try clear c14b0
              try clear c14b1
              try clear c14b2
              try clear hcv17
              try clear hcv18
              try clear hcv19
              try clear p2
              obtain ⟨kq, x7_10, rfl, HA, HJ10, HO_6, HB⟩ := hcut
              cases kq with
              | zero => exact absurd HA.out (by simp [letterboxlaw01_CharsJoins.j1])
              | succ kj10 =>
                have H := HA.out
                clear HA
                simp only [letterboxlaw01_CharsJoins.j1] at H
                have H' := Aside0.mk H
                clear H
                go_wp2
                go_loopg [9] kj10 (fun kq v9 w' => ∃ (x9_3 : Int), v9 = .int .i64 x9_3 ∧ Aside0 (letterboxlaw01_CharsJoins.l1 kq a0 a1 t132 x7_10 x8_1 x9_3 = some r) ∧ Aside0 (kq ≤ kj10) ∧ Aside0 (Kd.R Kd.string 9 w' w.heap.size (fun _ => True) (.slice Ao12 t132.length co12) t132) ∧ Aside0 (Below w.heap.size w w'))
                case atStart => exact ⟨(0), (by first | rfl | (simp; done) | (simp [*]; done)), H', ⟨Nat.le_refl _⟩, ⟨by (with_reducible repeat (first | apply Kd.R_alloc | apply Kd.R_drewN | apply Kd.R_drew)); exact HO_6.out⟩, ⟨by repeat (first | (with_reducible first | exact HB.out | apply below_alloc | apply pw_below_drewN | apply below_drew1) | exact HB.out)⟩⟩
                case round =>
                  clear H'
                  try clear c1
                  try clear hcv1
                  try clear p2
                  try clear c4
                  try clear c5
                  try clear c5b0
                  try clear c5b1
                  try clear c9
                  try clear c10
                  try clear c10b0
                  try clear c13
                  try clear c13b0
                  try clear c14
                  try clear c14b0
                  try clear c14b1
                  try clear c14b2
                  try clear hcv17
                  try clear hcv18
                  try clear hcv19
                  try clear p2
                  obtain ⟨x9_3, rfl, HA, HK3, HO_6, HB⟩ := hrel
                  cases gk with
                  | zero => exact absurd HA.out (by simp [letterboxlaw01_CharsJoins.l1])
                  | succ k3 =>
                    have H := HA.out
                    clear HA
                    simp only [letterboxlaw01_CharsJoins.l1] at H
                    by_cases c20 : 0 ≤ x8_1
                    · rw [if_pos c20] at H
                      have c20b0 : decide (0 ≤ x8_1) = true := decide_eq_true c20
                      clear c20
                      by_cases c21 : x8_1 < (t132.length : Int)
                      · rw [if_pos c21] at H
                        have c21b0 : decide (x8_1 < (t132.length : Int)) = true := decide_eq_true c21
                        clear c21
                        by_cases c22 : x9_3 < ((rdOf ByteArray.empty t132 x8_1).size : Int)
                        · rw [if_pos c22] at H
                          have c22b0 : decide (x9_3 < ((rdOf ByteArray.empty t132 x8_1).size : Int)) = true := decide_eq_true c22
                          clear c22
                          by_cases c23 : 0 ≤ x9_3
                          · rw [if_pos c23] at H
                            have c23b0 : decide (0 ≤ x9_3) = true := decide_eq_true c23
                            clear c23
                            by_cases c25 : (bt (rdOf ByteArray.empty t132 x8_1) x9_3) = a1
                            · rw [if_pos c25] at H
                              have c25b0 : ((bt (rdOf ByteArray.empty t132 x8_1) x9_3) == a1) = true := beq_iff_eq.mpr c25
                              have c25b1 : ((bt (rdOf ByteArray.empty t132 x8_1) x9_3) != a1) = false := bne_eq_false_iff_eq.mpr c25
                              clear c25
                              obtain rfl := Option.some.inj H
                              have p138 : 0 ≤ (x8_1 : Int) := of_decide_eq_true (by first | (with_reducible assumption) | assumption)
                              have q138 : x8_1 < (t132.length : Int) := of_decide_eq_true (by first | (with_reducible assumption) | assumption)
                              obtain ⟨ad138, e138, hx138_0⟩ := Kd.at_string (Kd.R_reads' HO_6.out).2.2 x8_1 p138 q138
                              cases e138
                              replace p138 := eq_true p138
                              replace q138 := eq_true q138
                              have p139 : 0 ≤ (x8_1 : Int) := of_decide_eq_true (by first | (with_reducible assumption) | assumption)
                              have q139 : x8_1 < (t132.length : Int) := of_decide_eq_true (by first | (with_reducible assumption) | assumption)
                              obtain ⟨ad139, e139, hx139_0⟩ := Kd.at_string (Kd.R_reads' HO_6.out).2.2 x8_1 p139 q139
                              obtain rfl : ad138 = ad139 := (by injection e139)
                              replace p139 := eq_true p139
                              replace q139 := eq_true q139
                              have p24 : 0 ≤ (x9_3 : Int) := of_decide_eq_true (by first | (with_reducible assumption) | assumption)
                              have q24 : x9_3 < ((rdOf ByteArray.empty t132 x8_1).size : Int) := of_decide_eq_true (by first | (with_reducible assumption) | assumption)
                              have hx24 := bt_at (rdOf ByteArray.empty t132 x8_1) x9_3
                              replace p24 := eq_true p24
                              replace q24 := eq_true q24
                              go_wp2
                              go_ret
                              exact ⟨by first | rfl | (simp [errW_none, errW_some] <;> rfl) | (simp [*, errW_none, errW_some] <;> rfl), by repeat (first | (with_reducible first | exact HB.out | apply below_alloc | apply pw_below_drewN | apply below_drew1) | exact HB.out)⟩
                            · rw [if_neg c25] at H
                              have c25b0 : ((bt (rdOf ByteArray.empty t132 x8_1) x9_3) == a1) = false := beq_eq_false_iff_ne.mpr c25
                              have c25b1 : ((bt (rdOf ByteArray.empty t132 x8_1) x9_3) != a1) = true := bne_iff_ne.mpr c25
                              have H' := Aside0.mk H
                              clear H
                              have p138 : 0 ≤ (x8_1 : Int) := of_decide_eq_true (by first | (with_reducible assumption) | assumption)
                              have q138 : x8_1 < (t132.length : Int) := of_decide_eq_true (by first | (with_reducible assumption) | assumption)
                              obtain ⟨ad138, e138, hx138_0⟩ := Kd.at_string (Kd.R_reads' HO_6.out).2.2 x8_1 p138 q138
                              cases e138
                              replace p138 := eq_true p138
                              replace q138 := eq_true q138
                              have p139 : 0 ≤ (x8_1 : Int) := of_decide_eq_true (by first | (with_reducible assumption) | assumption)
                              have q139 : x8_1 < (t132.length : Int) := of_decide_eq_true (by first | (with_reducible assumption) | assumption)
                              obtain ⟨ad139, e139, hx139_0⟩ := Kd.at_string (Kd.R_reads' HO_6.out).2.2 x8_1 p139 q139
                              obtain rfl : ad138 = ad139 := (by injection e139)
                              replace p139 := eq_true p139
                              replace q139 := eq_true q139
                              have p24 : 0 ≤ (x9_3 : Int) := of_decide_eq_true (by first | (with_reducible assumption) | assumption)
                              have q24 : x9_3 < ((rdOf ByteArray.empty t132 x8_1).size : Int) := of_decide_eq_true (by first | (with_reducible assumption) | assumption)
                              have hx24 := bt_at (rdOf ByteArray.empty t132 x8_1) x9_3
                              replace p24 := eq_true p24
                              replace q24 := eq_true q24
                              go_wp2
                              go_roundg k3
                              case measure => have := HK1.out; have := HJ10.out; have := HK3.out; omega
                              case rel => exact ⟨(wrap64 (x9_3 + 1)), (by first | rfl | (simp; done) | (simp [*]; done)), H', ⟨by have := HK1.out; have := HJ10.out; have := HK3.out; omega⟩, ⟨by (with_reducible repeat (first | apply Kd.R_alloc | apply Kd.R_drewN | apply Kd.R_drew)); exact HO_6.out⟩, ⟨by repeat (first | (with_reducible first | exact HB.out | apply below_alloc | apply pw_below_drewN | apply below_drew1) | exact HB.out)⟩⟩
                          · rw [if_neg c23] at H
                            exact absurd H (by simp)
                        · rw [if_neg c22] at H
                          have c22b0 : decide (x9_3 < ((rdOf ByteArray.empty t132 x8_1).size : Int)) = false := decide_eq_false c22
                          clear c22
                          by_cases c26 : x7_10.size + (rdOf ByteArray.empty t132 x8_1).size ≤ 9223372036854775807
                          · rw [if_pos c26] at H
                            have c26b0 := eq_true c26
                            have c26b1 : decide (x7_10.size + (rdOf ByteArray.empty t132 x8_1).size ≤ 9223372036854775807) = true := decide_eq_true c26
                            try have c26b2 : (9223372036854775807 < x7_10.size + (rdOf ByteArray.empty t132 x8_1).size) = False := eq_false (Nat.not_lt.2 c26)
                            have H' := Aside0.mk H
                            clear H
                            have p138 : 0 ≤ (x8_1 : Int) := of_decide_eq_true (by first | (with_reducible assumption) | assumption)
                            have q138 : x8_1 < (t132.length : Int) := of_decide_eq_true (by first | (with_reducible assumption) | assumption)
                            obtain ⟨ad138, e138, hx138_0⟩ := Kd.at_string (Kd.R_reads' HO_6.out).2.2 x8_1 p138 q138
                            cases e138
                            replace p138 := eq_true p138
                            replace q138 := eq_true q138
                            have p140 : 0 ≤ (x8_1 : Int) := of_decide_eq_true (by first | (with_reducible assumption) | assumption)
                            have q140 : x8_1 < (t132.length : Int) := of_decide_eq_true (by first | (with_reducible assumption) | assumption)
                            obtain ⟨ad140, e140, hx140_0⟩ := Kd.at_string (Kd.R_reads' HO_6.out).2.2 x8_1 p140 q140
                            obtain rfl : ad138 = ad140 := (by injection e140)
                            replace p140 := eq_true p140
                            replace q140 := eq_true q140
                            go_wp2
                            go_roundg k3
                            case measure => have := HK1.out; have := HJ10.out; have := HK3.out; omega
                            case rel => exact ⟨(x7_10 ++ (rdOf ByteArray.empty t132 x8_1)), (wrap64 (x8_1 + 1)), (by first | rfl | (simp; done) | (simp [*]; done)), (by first | rfl | (simp; done) | (simp [*]; done)), H', ⟨by have := HK1.out; have := HJ10.out; have := HK3.out; omega⟩, ⟨by (with_reducible repeat (first | apply Kd.R_alloc | apply Kd.R_drewN | apply Kd.R_drew)); exact HO_6.out⟩, ⟨by repeat (first | (with_reducible first | exact HB.out | apply below_alloc | apply pw_below_drewN | apply below_drew1) | exact HB.out)⟩⟩
                          · rw [if_neg c26] at H
                            exact absurd H (by simp)
                      · rw [if_neg c21] at H
                        exact absurd H (by simp)
                    · rw [if_neg c20] at H
                      exact absurd H (by simp)
          · rw [if_neg c10] at H
            have c10b0 : decide (x8_1 < (t132.length : Int)) = false := decide_eq_false c10
            clear c10
            by_cases c27 : x7_1.toList = a0.toList
            · rw [if_pos c27] at H
              have c27b0 : (x7_1.toList == a0.toList) = true := beq_iff_eq.mpr c27
              have c27b1 : (x7_1.toList != a0.toList) = false := bne_eq_false_iff_eq.mpr c27
              clear c27
              obtain rfl := Option.some.inj H
              obtain ⟨Ao28, co28, eo28⟩ := Kd.R_slice HO_6.out
              subst eo28
              go_wp2
              go_ret
              exact ⟨by first | rfl | (simp [errW_none, errW_some] <;> rfl) | (simp [*, errW_none, errW_some] <;> rfl), by repeat (first | (with_reducible first | exact HB.out | apply below_alloc | apply pw_below_drewN | apply below_drew1) | exact HB.out)⟩
            · rw [if_neg c27] at H
              have c27b0 : (x7_1.toList == a0.toList) = false := beq_eq_false_iff_ne.mpr c27
              have c27b1 : (x7_1.toList != a0.toList) = true := bne_iff_ne.mpr c27
              obtain rfl := Option.some.inj H
              obtain ⟨Ao29, co29, eo29⟩ := Kd.R_slice HO_6.out
              subst eo29
              go_wp2
              go_ret
              exact ⟨by first | rfl | (simp [errW_none, errW_some] <;> rfl) | (simp [*, errW_none, errW_some] <;> rfl), by repeat (first | (with_reducible first | exact HB.out | apply below_alloc | apply pw_below_drewN | apply below_drew1) | exact HB.out)⟩
  · replace c4 := Bool.eq_false_iff.mpr c4
    subst c4
    have H1 : (some false) = some r := by rw [if_neg (show ¬ (false = true) by decide)] at H; exact H
    clear H
    have H := H1
    clear H1
    obtain rfl := Option.some.inj H
    go_enter Try.func4, Try.ntmps4
    go_wp2_with (first | ((with_reducible refine gate_callee (f := 9) rfl ?_); refine goesL_ (some 10) rfl rfl Try.func9 (by kernel_rfl) rfl #[] rfl (by (try simp only [List.map_toArray, List.map_cons, List.map_nil]); first | done | rfl | (simp only [List.length_drop, List.length_take]; rfl)) ?_; (with_reducible refine (letterboxlaw01_awake.calls k  false _ A3.out).mono ?_); rintro e w30 ⟨rfl, hb⟩; refine ⟨_, rfl, ?_⟩; have n0_ := Aside0.mk (below_step (by repeat (first | (with_reducible first | exact HB.out | apply below_alloc | apply pw_below_drewN | apply below_drew1) | exact HB.out)) hb); clear HB; have HB := n0_; clear n0_; (try clear hb); (try clear hb2); (try clear hk); (try clear hi)))
    go_ret
    exact ⟨by first | rfl | (simp [errW_none, errW_some] <;> rfl) | (simp [*, errW_none, errW_some] <;> rfl), by repeat (first | (with_reducible first | exact HB.out | apply below_alloc | apply pw_below_drewN | apply below_drew1) | exact HB.out)⟩

/-- THE ONE PURE STATEMENT of letterboxlaw01_CharsJoins: yours. -/
def letterboxlaw01_CharsJoins.Pure : Prop := ∀ (a0 : ByteArray) (a1 : Int), a0.size ≤ 140737488351232 → (Lit.int .u8 a1).wf = true → ∃ k, letterboxlaw01_CharsJoins.f k a0 a1 = some true
theorem letterboxlaw01_CharsJoins.walk (P : letterboxlaw01_CharsJoins.Pure) (a0 : ByteArray) (a1 : Int) (w : World) (w0 : a0.size ≤ 140737488351232) (w1 : (Lit.int .u8 a1).wf = true) :
    Calls Try.prog 4 #[.string a0, .int .u8 a1] w fun e w' => e = .returned (.bool true) ∧ Below w.heap.size w w' := by
  obtain ⟨k, h⟩ := P a0 a1 w0 w1
  refine (letterboxlaw01_CharsJoins.calls k a0 a1 true w h).mono ?_
  rintro e w' ⟨rfl, hd⟩
  exact ⟨rfl, hd⟩

/-! ### letterboxlaw01_CharsFold: function 5 -/
def letterboxlaw01_CharsFold.s (a : ByteArray) : ByteArray := strOfNums ((bytesOf a).map chars_Fold.low)
def letterboxlaw01_CharsFold.q (a0 : ByteArray) (i : Nat) (x : Int) : Bool := (letterboxlaw01_CharsFold.s (strOfNums ((bytesOf a0).set i x))).toList == (letterboxlaw01_CharsFold.s a0).toList
def letterboxlaw01_CharsFold.rest (a0 : ByteArray) (i : Nat) (c : Int) (a2 : Bool) : Bool :=
  if a2 = true then (if 97 ≤ c then (if c ≤ 122 then letterboxlaw01_CharsFold.q a0 i ((c - 32) % 256) else true) else true) else true
def letterboxlaw01_CharsFold.f (k : Nat) (a0 : ByteArray) (a1 : Int) (a2 : Bool) : Option Bool :=
  (letterboxlaw01_awake.f k).bind fun u => if u = true then (if 300 < a0.size then some true else if a0.size = 0 then some true else if 0 ≤ a1 ∧ a1 ≤ 65535 then some (letterboxlaw01_CharsFold.rest a0 (a1.toNat % a0.size) (rd (bytesOf a0) ((a1.toNat % a0.size : Nat) : Int)) a2) else none) else none
theorem letterboxlaw01_CharsFold.mono : ∀ a0 a1 a2 k, LeO (letterboxlaw01_CharsFold.f k a0 a1 a2) (letterboxlaw01_CharsFold.f (k + 1) a0 a1 a2) := by
  intro a0 a1 a2 k
  exact LeO.bind (letterboxlaw01_awake.mono k) (fun _ => LeO.refl _)
theorem letterboxlaw01_CharsFold.low_low (c : Int) (h : 0 ≤ c ∧ c ≤ 255) : chars_Fold.low (chars_Fold.low c) = chars_Fold.low c ∧ 0 ≤ chars_Fold.low c ∧ chars_Fold.low c ≤ 255 := by
  have all : ∀ y : Fin 256, chars_Fold.low (chars_Fold.low (y.val : Int)) = chars_Fold.low (y.val : Int) ∧ 0 ≤ chars_Fold.low (y.val : Int) ∧ chars_Fold.low (y.val : Int) ≤ 255 := by decide +kernel
  have := all ⟨c.toNat, by omega⟩
  rwa [show ((⟨c.toNat, by omega⟩ : Fin 256).val : Int) = c from Int.toNat_of_nonneg h.1] at this
theorem letterboxlaw01_CharsFold.s_s (a : ByteArray) : letterboxlaw01_CharsFold.s (letterboxlaw01_CharsFold.s a) = letterboxlaw01_CharsFold.s a := by
  unfold letterboxlaw01_CharsFold.s
  rw [Aids.bytes_str _ (fun x hx => by
    obtain ⟨y, hy, rfl⟩ := List.mem_map.1 hx
    exact (letterboxlaw01_CharsFold.low_low y (Aids.byte_of y hy)).2), List.map_map]
  congr 1
  exact List.map_congr_left fun y hy => (letterboxlaw01_CharsFold.low_low y (Aids.byte_of y hy)).1
theorem letterboxlaw01_CharsFold.s_size (a : ByteArray) : (letterboxlaw01_CharsFold.s a).size = a.size := by
  unfold letterboxlaw01_CharsFold.s; rw [strOfNums_size, List.length_map, bytesOf_length]
theorem letterboxlaw01_CharsFold.fold (a : ByteArray) (h : a.size ≤ 9223372036854775807) : chars_Fold.f a = some (letterboxlaw01_CharsFold.s a) := by
  unfold chars_Fold.f; rw [if_pos h]; rfl
theorem letterboxlaw01_CharsFold.sames (a b : ByteArray) (h : a.size ≤ 9223372036854775807) (h2 : b.size ≤ 9223372036854775807) : chars_Same.f a b = some ((letterboxlaw01_CharsFold.s a).toList == (letterboxlaw01_CharsFold.s b).toList) := by
  unfold chars_Same.f; rw [letterboxlaw01_CharsFold.fold a h, letterboxlaw01_CharsFold.fold b h2]; rfl
/-- a row that bears a mark, with one byte laid into it -/
def letterboxlaw01_CharsFold.row (g : Nat) (wr : World) (l : List Int) : Prop :=
  ∃ (C : Array Value) (m : Nat), wr.heap[g]? = some (.cells C 5 (m, m + 1)) ∧ C.size = m ∧ l.length ≤ m ∧ ∀ j, j < l.length → C[j]? = some (.int .u8 (l.getD j 0))
theorem letterboxlaw01_CharsFold.start (w : World) (s : ByteArray) (hs : s.size ≤ 9223372036854775807) : letterboxlaw01_CharsFold.row w.heap.size (Lib.bytesWorld w 5 s) (bytesOf s) := by
  obtain ⟨C, m, h1, h2, h3, h4⟩ := chars_Fold.start w s hs
  exact ⟨C, m, h1, h2, by rw [bytesOf_length]; exact h3, fun j hj => by rw [bytesOf_length] at hj; rw [h4 j hj, if_neg (Nat.not_lt_zero _)]⟩
theorem letterboxlaw01_CharsFold.set {g : Nat} {wr : World} {l : List Int} (h : letterboxlaw01_CharsFold.row g wr l) (i : Nat) (x : Int) (hi : i < l.length) : letterboxlaw01_CharsFold.row g (wr.setCell ⟨g, i, none⟩ (.int .u8 x)) (l.set i x) := by
  obtain ⟨C, m, hg, hm, hsm, hc⟩ := h
  refine ⟨C.setIfInBounds i (.int .u8 x), m, ?_, by simpa using hm, by simpa using hsm, fun j hj => ?_⟩
  · rw [setCell_eq_setRow wr _ i C _ _ _ hg]; exact setRow_heap wr _ C _ _ _ hg
  · rw [List.length_set] at hj
    rw [Array.getElem?_setIfInBounds, List.getD_eq_getElem?_getD, List.getElem?_set]
    by_cases e : i = j
    · subst e; simp [show i < C.size by omega, hj]
    · simp only [e, if_false]; rw [← List.getD_eq_getElem?_getD]; exact hc j hj
theorem letterboxlaw01_CharsFold.cell {g : Nat} {wr : World} {l : List Int} (h : letterboxlaw01_CharsFold.row g wr l) (j : Nat) (hj : j < l.length) : wr.cell? ⟨g, j, none⟩ = some (.int .u8 (rd l (j : Int))) ∧ wr.frozen? ⟨g, j, none⟩ = false := by
  obtain ⟨C, m, hg, hm, hsm, hc⟩ := h
  refine ⟨by rw [cell_of_row _ _ _ _ _ _ hg]; exact hc j hj, ?_⟩
  simp [World.frozen?, hg]; omega
theorem letterboxlaw01_CharsFold.reads {g : Nat} {wr : World} {l : List Int} (h : letterboxlaw01_CharsFold.row g wr l) (hs : l.length ≤ 9223372036854775807) : Kd.C (Kd.int .u8) wr (some ⟨g, 0, none⟩) l.length l := by
  refine Kd.C_of_reads (d := (0 : Int)) (h1 := fun _ => rfl) ⟨rfl, hs, fun _ => ⟨_, rfl, fun j hj => ?_⟩⟩
  obtain ⟨C, m, hg, hm, hsm, hc⟩ := h
  rw [add_plain, cell_of_row _ _ _ _ _ _ hg]; exact hc j hj
theorem letterboxlaw01_CharsFold.carry {g : Nat} {w wr : World} {l : List Int} (h : letterboxlaw01_CharsFold.row g w l) (hb : Below w.heap.size w wr) : letterboxlaw01_CharsFold.row g wr l := by
  obtain ⟨C, m, hg, h2⟩ := h
  exact ⟨C, m, (hb.block g (Array.getElem?_eq_some_iff.1 hg).1).trans hg, h2⟩
theorem letterboxlaw01_CharsFold.conv {g n c : Nat} {W : World} {l : List Int} (h : letterboxlaw01_CharsFold.row g W l) (hn : l.length = n) (hs : n ≤ 9223372036854775807) :
    (convert 29 9 (.slice (some ⟨g, 0, none⟩) n c)).run Try.prog W = .ok (.string (strOfNums l)) W := by
  subst hn
  exact Kd.C_string (P := Try.prog) Try.underlying29 Try.underlying5 Try.underlying9 (letterboxlaw01_CharsFold.reads h hs)
set_option maxHeartbeats 4000000 in
theorem letterboxlaw01_CharsFold.calls (k : Nat) (a0 : ByteArray) (a1 : Int) (a2 : Bool) (r : Bool) (w : World) (h : letterboxlaw01_CharsFold.f k a0 a1 a2 = some r) :
    Calls Try.prog 5 #[.string a0, .int .u16 a1, .bool a2] w fun e w' => e = .returned (.bool r) ∧ Below w.heap.size w w' := by
  obtain ⟨u, hA, h⟩ := Option.bind_eq_some_iff.mp h
  cases u with
  | false => exact absurd h (by simp)
  | true =>
    rw [if_pos rfl] at h
    go_enter Try.func5, Try.ntmps5
    go_wp2_with fail
    refine (letterboxlaw01_awake.calls k true _ hA).mono ?_
    rintro e w1 ⟨rfl, hb1⟩
    have HB1 := Aside0.mk hb1
    clear hb1 hA
    by_cases h3 : 300 < a0.size
    · rw [if_pos h3] at h
      obtain rfl := Option.some.inj h
      have h3b : decide ((300 : Int) < (a0.size : Int)) = true := decide_eq_true (by omega)
      go_wp2
      go_ret
      exact ⟨rfl, HB1.out⟩
    · rw [if_neg h3] at h
      have h3b : decide ((300 : Int) < (a0.size : Int)) = false := decide_eq_false (by omega)
      have hF := letterboxlaw01_CharsFold.fold a0 (by omega)
      have hF2 := letterboxlaw01_CharsFold.fold (letterboxlaw01_CharsFold.s a0) (by rw [letterboxlaw01_CharsFold.s_size]; omega)
      have hS := letterboxlaw01_CharsFold.sames a0 (letterboxlaw01_CharsFold.s a0) (by omega) (by rw [letterboxlaw01_CharsFold.s_size]; omega)
      have hsz := letterboxlaw01_CharsFold.s_size a0
      rw [letterboxlaw01_CharsFold.s_s] at hF2 hS
      generalize hFe : letterboxlaw01_CharsFold.s a0 = F at hF hF2 hS hsz
      rw [beq_self_eq_true] at hS
      go_wp2_with fail
      refine (chars_Fold.calls a0 F _ hF).mono ?_
      rintro e w2 ⟨rfl, hb2⟩
      have HB2 := Aside0.mk (HB1.out.trans (hb2.mono HB1.out.size))
      clear hb2 HB1
      go_wp2_with fail
      refine (chars_Fold.calls F F _ hF2).mono ?_
      rintro e w3 ⟨rfl, hb3⟩
      have HB3 := Aside0.mk (HB2.out.trans (hb3.mono HB2.out.size))
      clear hb3 HB2
      go_wp2_with fail
      refine (chars_Same.calls a0 F true _ hS).mono ?_
      rintro e w4 ⟨rfl, hb4⟩
      have HB4 := Aside0.mk (HB3.out.trans (hb4.mono HB3.out.size))
      clear hb4 HB3
      by_cases hz : a0.size = 0
      · rw [if_pos hz] at h
        obtain rfl := Option.some.inj h
        have hz0 : decide ((a0.size : Int) = 0) = true := decide_eq_true (by omega)
        go_wp2
        go_ret
        exact ⟨by simp [hz], HB4.out⟩
      · rw [if_neg hz] at h
        by_cases ha : 0 ≤ a1 ∧ a1 ≤ 65535
        case neg => rw [if_neg ha] at h; exact absurd h (by simp)
        rw [if_pos ha] at h
        have hz0 : decide ((a0.size : Int) = 0) = false := decide_eq_false (by omega)
        obtain ⟨i, hi⟩ : ∃ i : Nat, a1.toNat % a0.size = i := ⟨_, rfl⟩
        have hlt : i < a0.size := by rw [← hi]; exact Nat.mod_lt _ (by omega)
        have hl : i < (bytesOf a0).length := by rw [bytesOf_length]; exact hlt
        rw [hi] at h
        have hw1 : IntKind.i64.wrap a1 = a1 := by rw [IntKind.wrap_i64]; omega
        have htm : Int.tmod a1 (a0.size : Int) = (i : Int) := by
          rw [← hi, Int.tmod_eq_emod_of_nonneg ha.1, Int.natCast_emod, Int.toNat_of_nonneg ha.1]
        have hcv := print_bytes (P := Try.prog) 9 29 5 Try.underlying9 Try.underlying29 Try.underlying5 a0 w4
        have hR := Aside0.mk (letterboxlaw01_CharsFold.start w4 a0 (by omega))
        have hB := Aside0.mk (HB4.out.trans ((bytes_below (Below.refl w4.heap.size w4) (Nat.le_refl _) 5 a0).mono HB4.out.size))
        obtain ⟨hc, hf⟩ := letterboxlaw01_CharsFold.cell hR.out i hl
        obtain ⟨c, hce⟩ : ∃ c : Int, rd (bytesOf a0) (i : Int) = c := ⟨_, rfl⟩
        rw [hce] at h hc
        have hc0 := Aids.byte_of (s := a0) c (by rw [← hce]; unfold rd; rw [Int.toNat_natCast, List.getD_eq_getElem?_getD, List.getElem?_eq_getElem hl]; exact List.getElem_mem hl)
        have hr := (Option.some.inj h).symm
        clear h hS hF hF2 hi
        subst hr
        cases a2 with
        | false =>
          have hW := Aside0.mk (letterboxlaw01_CharsFold.set hR.out i ((c + 1) % 256) hl)
          have hBW := Aside0.mk (hB.out.setCell (p := ⟨w4.heap.size, i, none⟩) HB4.out.size (.int .u8 ((c + 1) % 256)))
          have hcv2 := letterboxlaw01_CharsFold.conv (c := grownCap w4 a0.size 0 5) hW.out (n := a0.size) (by rw [List.length_set, bytesOf_length]) (by omega)
          have hsb : (strOfNums ((bytesOf a0).set i ((c + 1) % 256))).size ≤ 9223372036854775807 := by rw [strOfNums_size, List.length_set, bytesOf_length]; omega
          have hS2 := letterboxlaw01_CharsFold.sames (strOfNums ((bytesOf a0).set i ((c + 1) % 256))) a0 hsb (by omega)
          have hF3 := letterboxlaw01_CharsFold.fold _ hsb
          rw [hFe] at hS2
          clear hsb
          go_wp2_with fail
          refine (chars_Same.calls _ _ _ _ hS2).mono ?_
          rintro e w5 ⟨rfl, hb5⟩
          have HB5 := Aside0.mk (hBW.out.trans (hb5.mono hBW.out.size))
          have hcv3 := letterboxlaw01_CharsFold.conv (c := grownCap w4 a0.size 0 5) (letterboxlaw01_CharsFold.carry hW.out hb5) (n := a0.size) (by rw [List.length_set, bytesOf_length]) (by omega)
          clear hb5 hcv2
          go_wp2_with fail
          refine (chars_Fold.calls _ _ _ hF3).mono ?_
          rintro e w6 ⟨rfl, hb6⟩
          have HB6 := Aside0.mk (HB5.out.trans (hb6.mono HB5.out.size))
          clear hb6
          go_wp2
          go_ret
          exact ⟨by simp [letterboxlaw01_CharsFold.rest], HB6.out⟩
        | true =>
          by_cases h97 : 97 ≤ c
          · by_cases h122 : c ≤ 122
            · have hW := Aside0.mk (letterboxlaw01_CharsFold.set hR.out i (c - 32) hl)
              have hBW := Aside0.mk (hB.out.setCell (p := ⟨w4.heap.size, i, none⟩) HB4.out.size (.int .u8 (c - 32)))
              have hcv2 := letterboxlaw01_CharsFold.conv (c := grownCap w4 a0.size 0 5) hW.out (n := a0.size) (by rw [List.length_set, bytesOf_length]) (by omega)
              have hsb : (strOfNums ((bytesOf a0).set i (c - 32))).size ≤ 9223372036854775807 := by rw [strOfNums_size, List.length_set, bytesOf_length]; omega
              have hS2 := letterboxlaw01_CharsFold.sames (strOfNums ((bytesOf a0).set i (c - 32))) a0 hsb (by omega)
              clear hsb
              go_wp2_with fail
              refine (chars_Same.calls _ _ _ _ hS2).mono ?_
              rintro e w5 ⟨rfl, hb5⟩
              have HB5 := Aside0.mk (hBW.out.trans (hb5.mono hBW.out.size))
              clear hb5
              go_wp2
              go_ret
              refine ⟨?_, HB5.out⟩
              have e1 : (c - 32) % 256 = c - 32 := Int.emod_eq_of_lt (by omega) (by omega)
              simp [letterboxlaw01_CharsFold.rest, letterboxlaw01_CharsFold.q, h97, h122, e1, hFe]
            · have hcv2 := letterboxlaw01_CharsFold.conv (c := grownCap w4 a0.size 0 5) hR.out (n := a0.size) (bytesOf_length _) (by omega)
              rw [Aids.str_bytes] at hcv2
              have hS2 := letterboxlaw01_CharsFold.sames a0 a0 (by omega) (by omega)
              rw [beq_self_eq_true] at hS2
              go_wp2_with fail
              refine (chars_Same.calls _ _ _ _ hS2).mono ?_
              rintro e w5 ⟨rfl, hb5⟩
              have HB5 := Aside0.mk (hB.out.trans (hb5.mono hB.out.size))
              clear hb5
              go_wp2
              go_ret
              exact ⟨by simp [letterboxlaw01_CharsFold.rest, h97, h122], HB5.out⟩
          · have hcv2 := letterboxlaw01_CharsFold.conv (c := grownCap w4 a0.size 0 5) hR.out (n := a0.size) (bytesOf_length _) (by omega)
            rw [Aids.str_bytes] at hcv2
            have hS2 := letterboxlaw01_CharsFold.sames a0 a0 (by omega) (by omega)
            rw [beq_self_eq_true] at hS2
            go_wp2_with fail
            refine (chars_Same.calls _ _ _ _ hS2).mono ?_
            rintro e w5 ⟨rfl, hb5⟩
            have HB5 := Aside0.mk (hB.out.trans (hb5.mono hB.out.size))
            clear hb5
            go_wp2
            go_ret
            exact ⟨by simp [letterboxlaw01_CharsFold.rest, h97], HB5.out⟩
def letterboxlaw01_CharsFold.Pure : Prop := ∀ (a0 : ByteArray) (a1 : Int) (a2 : Bool), a0.size ≤ 140737488351232 → (Lit.int .u16 a1).wf = true → ∃ k, letterboxlaw01_CharsFold.f k a0 a1 a2 = some true
theorem letterboxlaw01_CharsFold.walk (P : letterboxlaw01_CharsFold.Pure) (a0 : ByteArray) (a1 : Int) (a2 : Bool) (w : World) (w0 : a0.size ≤ 140737488351232) (w1 : (Lit.int .u16 a1).wf = true) :
    Calls Try.prog 5 #[.string a0, .int .u16 a1, .bool a2] w fun e w' => e = .returned (.bool true) ∧ Below w.heap.size w w' := by
  obtain ⟨k, h⟩ := P a0 a1 a2 w0 w1
  refine (letterboxlaw01_CharsFold.calls k a0 a1 a2 true w h).mono ?_
  rintro e w' ⟨rfl, hd⟩
  exact ⟨rfl, hd⟩

/-! ### letterboxref01_Lower: function 17 -/
def letterboxref01_Lower.l0 : Nat → Int → ByteArray → ByteArray → Int → Option (Int)
  | 0, _, _, _, _ => none
  | k + 1, x0, x3, x4, x5 => if x5 < (x3.size : Int) then (if 0 ≤ x5 then (if (bt x3 x5) = x0 then (if x5 < (x4.size : Int) then (some (bt x4 x5)) else (none)) else (letterboxref01_Lower.l0 k x0 x3 x4 (wrap64 (x5 + 1)))) else (none)) else (some x0)
def letterboxref01_Lower.f (k : Nat) (a0 : Int) : Option (Int) := letterboxref01_Lower.l0 k a0 (⟨#[65, 66, 67, 68, 69, 70, 71, 72, 73, 74, 75, 76, 77, 78, 79, 80, 81, 82, 83, 84, 85, 86, 87, 88, 89, 90]⟩ : ByteArray) (⟨#[97, 98, 99, 100, 101, 102, 103, 104, 105, 106, 107, 108, 109, 110, 111, 112, 113, 114, 115, 116, 117, 118, 119, 120, 121, 122]⟩ : ByteArray) 0
theorem letterboxref01_Lower.mono_l : ∀ k, (∀ y0 y1 y2 y3, LeO (letterboxref01_Lower.l0 k y0 y1 y2 y3) (letterboxref01_Lower.l0 (k + 1) y0 y1 y2 y3))
  | 0 => fun _ _ _ _ r h => by simp [letterboxref01_Lower.l0] at h
  | k + 1 => by
    have ih0 := letterboxref01_Lower.mono_l k
    · intro y0 y1 y2 y3
      unfold letterboxref01_Lower.l0
      repeat' first
      | (with_reducible exact ih0 _ _ _ _)
      | (with_reducible exact LeO.refl _)
      | (with_reducible exact LeO.none _)
      | (with_reducible refine LeO.ite ?_ ?_)
      | (with_reducible refine LeO.bind ?_ (fun _ => ?_))
      | exact ih0 _ _ _ _
      | exact LeO.none _
      | refine LeO.ite ?_ ?_
      | refine LeO.bind ?_ (fun _ => ?_)
theorem letterboxref01_Lower.mono : ∀ a0 k, LeO (letterboxref01_Lower.f k a0) (letterboxref01_Lower.f (k + 1) a0) := by
  intro a0 k
  have ih0 := letterboxref01_Lower.mono_l k
  unfold letterboxref01_Lower.f
  repeat' first
      | (with_reducible exact ih0 _ _ _ _)
      | (with_reducible exact LeO.refl _)
      | (with_reducible exact LeO.none _)
      | (with_reducible refine LeO.ite ?_ ?_)
      | (with_reducible refine LeO.bind ?_ (fun _ => ?_))
      | exact ih0 _ _ _ _
      | exact LeO.none _
      | refine LeO.ite ?_ ?_
      | refine LeO.bind ?_ (fun _ => ?_)
set_option maxHeartbeats 8000000 in
set_option maxRecDepth 100000 in
theorem letterboxref01_Lower.calls (k : Nat) (a0 : Int) (r : Int) (w : World) (h : letterboxref01_Lower.f k a0 = some r) :
    Calls Try.prog 17 #[.int .u8 a0] w fun e w' => e = .returned (.int .u8 r) ∧ Drawn0 w w' := by
  have H : (letterboxref01_Lower.l0 k a0 (⟨#[65, 66, 67, 68, 69, 70, 71, 72, 73, 74, 75, 76, 77, 78, 79, 80, 81, 82, 83, 84, 85, 86, 87, 88, 89, 90]⟩ : ByteArray) (⟨#[97, 98, 99, 100, 101, 102, 103, 104, 105, 106, 107, 108, 109, 110, 111, 112, 113, 114, 115, 116, 117, 118, 119, 120, 121, 122]⟩ : ByteArray) 0) = some r := h
  clear h
  have H' := Aside0.mk H
  clear H
  go_enter Try.func17, Try.ntmps17
  go_wp2
  go_loopg [5] k (fun kq v5 w' => ∃ (x5_1 : Int), v5 = .int .i64 x5_1 ∧ Aside0 (letterboxref01_Lower.l0 kq a0 (⟨#[65, 66, 67, 68, 69, 70, 71, 72, 73, 74, 75, 76, 77, 78, 79, 80, 81, 82, 83, 84, 85, 86, 87, 88, 89, 90]⟩ : ByteArray) (⟨#[97, 98, 99, 100, 101, 102, 103, 104, 105, 106, 107, 108, 109, 110, 111, 112, 113, 114, 115, 116, 117, 118, 119, 120, 121, 122]⟩ : ByteArray) x5_1 = some r) ∧ Aside0 (kq ≤ k) ∧ Drawn0 w w')
  case atStart => exact ⟨(0), (by first | rfl | (simp; done) | (simp [*]; done)), H', ⟨Nat.le_refl _⟩, by repeat (first | exact Drawn0.refl _ | apply Drawn0.step)⟩
  case round =>
    clear H'
    try clear c1
    obtain ⟨x5_1, rfl, HA, HK1, ⟨m1, rfl⟩⟩ := hrel
    cases gk with
    | zero => exact absurd HA.out (by simp [letterboxref01_Lower.l0])
    | succ k1 =>
      have H := HA.out
      clear HA
      simp only [letterboxref01_Lower.l0] at H
      by_cases c2 : x5_1 < ((⟨#[65, 66, 67, 68, 69, 70, 71, 72, 73, 74, 75, 76, 77, 78, 79, 80, 81, 82, 83, 84, 85, 86, 87, 88, 89, 90]⟩ : ByteArray).size : Int)
      · rw [if_pos c2] at H
        have c2b0 : decide (x5_1 < ((⟨#[65, 66, 67, 68, 69, 70, 71, 72, 73, 74, 75, 76, 77, 78, 79, 80, 81, 82, 83, 84, 85, 86, 87, 88, 89, 90]⟩ : ByteArray).size : Int)) = true := decide_eq_true c2
        have c2b0z : decide (x5_1 < 26) = true := c2b0
        clear c2
        by_cases c3 : 0 ≤ x5_1
        · rw [if_pos c3] at H
          have c3b0 : decide (0 ≤ x5_1) = true := decide_eq_true c3
          clear c3
          by_cases c5 : (bt (⟨#[65, 66, 67, 68, 69, 70, 71, 72, 73, 74, 75, 76, 77, 78, 79, 80, 81, 82, 83, 84, 85, 86, 87, 88, 89, 90]⟩ : ByteArray) x5_1) = a0
          · rw [if_pos c5] at H
            have c5b0 : ((bt (⟨#[65, 66, 67, 68, 69, 70, 71, 72, 73, 74, 75, 76, 77, 78, 79, 80, 81, 82, 83, 84, 85, 86, 87, 88, 89, 90]⟩ : ByteArray) x5_1) == a0) = true := beq_iff_eq.mpr c5
            have c5b1 : ((bt (⟨#[65, 66, 67, 68, 69, 70, 71, 72, 73, 74, 75, 76, 77, 78, 79, 80, 81, 82, 83, 84, 85, 86, 87, 88, 89, 90]⟩ : ByteArray) x5_1) != a0) = false := bne_eq_false_iff_eq.mpr c5
            clear c5
            by_cases c6 : x5_1 < ((⟨#[97, 98, 99, 100, 101, 102, 103, 104, 105, 106, 107, 108, 109, 110, 111, 112, 113, 114, 115, 116, 117, 118, 119, 120, 121, 122]⟩ : ByteArray).size : Int)
            · rw [if_pos c6] at H
              have c6b0 : decide (x5_1 < ((⟨#[97, 98, 99, 100, 101, 102, 103, 104, 105, 106, 107, 108, 109, 110, 111, 112, 113, 114, 115, 116, 117, 118, 119, 120, 121, 122]⟩ : ByteArray).size : Int)) = true := decide_eq_true c6
              have c6b0z : decide (x5_1 < 26) = true := c6b0
              clear c6
              obtain rfl := Option.some.inj H
              have p4 : 0 ≤ (x5_1 : Int) := of_decide_eq_true (by first | (with_reducible assumption) | assumption)
              have q4 : x5_1 < (26 : Int) := of_decide_eq_true (by first | (with_reducible assumption) | assumption)
              have hx4 := bt_at (⟨#[65, 66, 67, 68, 69, 70, 71, 72, 73, 74, 75, 76, 77, 78, 79, 80, 81, 82, 83, 84, 85, 86, 87, 88, 89, 90]⟩ : ByteArray) x5_1
              replace p4 := eq_true p4
              replace q4 := eq_true q4
              have p7 : 0 ≤ (x5_1 : Int) := of_decide_eq_true (by first | (with_reducible assumption) | assumption)
              have q7 : x5_1 < (26 : Int) := of_decide_eq_true (by first | (with_reducible assumption) | assumption)
              have hx7 := bt_at (⟨#[97, 98, 99, 100, 101, 102, 103, 104, 105, 106, 107, 108, 109, 110, 111, 112, 113, 114, 115, 116, 117, 118, 119, 120, 121, 122]⟩ : ByteArray) x5_1
              replace p7 := eq_true p7
              replace q7 := eq_true q7
              go_wp2
              go_ret
              exact ⟨by first | rfl | (simp; done) | (simp [*]; done), by repeat (first | exact Drawn0.refl _ | apply Drawn0.step)⟩
            · rw [if_neg c6] at H
              exact absurd H (by simp)
          · rw [if_neg c5] at H
            have c5b0 : ((bt (⟨#[65, 66, 67, 68, 69, 70, 71, 72, 73, 74, 75, 76, 77, 78, 79, 80, 81, 82, 83, 84, 85, 86, 87, 88, 89, 90]⟩ : ByteArray) x5_1) == a0) = false := beq_eq_false_iff_ne.mpr c5
            have c5b1 : ((bt (⟨#[65, 66, 67, 68, 69, 70, 71, 72, 73, 74, 75, 76, 77, 78, 79, 80, 81, 82, 83, 84, 85, 86, 87, 88, 89, 90]⟩ : ByteArray) x5_1) != a0) = true := bne_iff_ne.mpr c5
            have H' := Aside0.mk H
            clear H
            have p4 : 0 ≤ (x5_1 : Int) := of_decide_eq_true (by first | (with_reducible assumption) | assumption)
            have q4 : x5_1 < (26 : Int) := of_decide_eq_true (by first | (with_reducible assumption) | assumption)
            have hx4 := bt_at (⟨#[65, 66, 67, 68, 69, 70, 71, 72, 73, 74, 75, 76, 77, 78, 79, 80, 81, 82, 83, 84, 85, 86, 87, 88, 89, 90]⟩ : ByteArray) x5_1
            replace p4 := eq_true p4
            replace q4 := eq_true q4
            go_wp2
            go_roundg k1
            case measure => have := HK1.out; omega
            case rel => exact ⟨(wrap64 (x5_1 + 1)), (by first | rfl | (simp; done) | (simp [*]; done)), H', ⟨by have := HK1.out; omega⟩, by repeat (first | exact Drawn0.refl _ | apply Drawn0.step)⟩
        · rw [if_neg c3] at H
          exact absurd H (by simp)
      · rw [if_neg c2] at H
        have c2b0 : decide (x5_1 < ((⟨#[65, 66, 67, 68, 69, 70, 71, 72, 73, 74, 75, 76, 77, 78, 79, 80, 81, 82, 83, 84, 85, 86, 87, 88, 89, 90]⟩ : ByteArray).size : Int)) = false := decide_eq_false c2
        have c2b0z : decide (x5_1 < 26) = false := c2b0
        clear c2
        obtain rfl := Option.some.inj H
        go_wp2
        go_ret
        exact ⟨by first | rfl | (simp; done) | (simp [*]; done), by repeat (first | exact Drawn0.refl _ | apply Drawn0.step)⟩

/-! ### letterboxref01_In: function 30 -/
def letterboxref01_In.l0 : Nat → ByteArray → Int → Int → Option (Bool)
  | 0, _, _, _ => none
  | k + 1, x0, x1, x5 => if x5 < (x0.size : Int) then (if 0 ≤ x5 then (if (bt x0 x5) = x1 then (some true) else (letterboxref01_In.l0 k x0 x1 (wrap64 (x5 + 1)))) else (none)) else (some false)
def letterboxref01_In.f (k : Nat) (a0 : ByteArray) (a1 : Int) : Option (Bool) := letterboxref01_In.l0 k a0 a1 0
theorem letterboxref01_In.mono_l : ∀ k, (∀ y0 y1 y2, LeO (letterboxref01_In.l0 k y0 y1 y2) (letterboxref01_In.l0 (k + 1) y0 y1 y2))
  | 0 => fun _ _ _ r h => by simp [letterboxref01_In.l0] at h
  | k + 1 => by
    have ih0 := letterboxref01_In.mono_l k
    · intro y0 y1 y2
      unfold letterboxref01_In.l0
      repeat' first
      | (with_reducible exact ih0 _ _ _)
      | (with_reducible exact LeO.refl _)
      | (with_reducible exact LeO.none _)
      | (with_reducible refine LeO.ite ?_ ?_)
      | (with_reducible refine LeO.bind ?_ (fun _ => ?_))
      | exact ih0 _ _ _
      | exact LeO.none _
      | refine LeO.ite ?_ ?_
      | refine LeO.bind ?_ (fun _ => ?_)
theorem letterboxref01_In.mono : ∀ a0 a1 k, LeO (letterboxref01_In.f k a0 a1) (letterboxref01_In.f (k + 1) a0 a1) := by
  intro a0 a1 k
  have ih0 := letterboxref01_In.mono_l k
  unfold letterboxref01_In.f
  repeat' first
      | (with_reducible exact ih0 _ _ _)
      | (with_reducible exact LeO.refl _)
      | (with_reducible exact LeO.none _)
      | (with_reducible refine LeO.ite ?_ ?_)
      | (with_reducible refine LeO.bind ?_ (fun _ => ?_))
      | exact ih0 _ _ _
      | exact LeO.none _
      | refine LeO.ite ?_ ?_
      | refine LeO.bind ?_ (fun _ => ?_)
set_option maxHeartbeats 8000000 in
set_option maxRecDepth 100000 in
theorem letterboxref01_In.calls (k : Nat) (a0 : ByteArray) (a1 : Int) (r : Bool) (w : World) (h : letterboxref01_In.f k a0 a1 = some r) :
    Calls Try.prog 30 #[.string a0, .int .u8 a1] w fun e w' => e = .returned (.bool r) ∧ Drawn0 w w' := by
  have H : (letterboxref01_In.l0 k a0 a1 0) = some r := h
  clear h
  have H' := Aside0.mk H
  clear H
  go_enter Try.func30, Try.ntmps30
  go_wp2
  go_loopg [5] k (fun kq v5 w' => ∃ (x5_1 : Int), v5 = .int .i64 x5_1 ∧ Aside0 (letterboxref01_In.l0 kq a0 a1 x5_1 = some r) ∧ Aside0 (kq ≤ k) ∧ Drawn0 w w')
  case atStart => exact ⟨(0), (by first | rfl | (simp; done) | (simp [*]; done)), H', ⟨Nat.le_refl _⟩, by repeat (first | exact Drawn0.refl _ | apply Drawn0.step)⟩
  case round =>
    clear H'
    try clear p2
    obtain ⟨x5_1, rfl, HA, HK1, ⟨m1, rfl⟩⟩ := hrel
    cases gk with
    | zero => exact absurd HA.out (by simp [letterboxref01_In.l0])
    | succ k1 =>
      have H := HA.out
      clear HA
      simp only [letterboxref01_In.l0] at H
      by_cases c3 : x5_1 < (a0.size : Int)
      · rw [if_pos c3] at H
        have c3b0 : decide (x5_1 < (a0.size : Int)) = true := decide_eq_true c3
        clear c3
        by_cases c4 : 0 ≤ x5_1
        · rw [if_pos c4] at H
          have c4b0 : decide (0 ≤ x5_1) = true := decide_eq_true c4
          clear c4
          by_cases c6 : (bt a0 x5_1) = a1
          · rw [if_pos c6] at H
            have c6b0 : ((bt a0 x5_1) == a1) = true := beq_iff_eq.mpr c6
            have c6b1 : ((bt a0 x5_1) != a1) = false := bne_eq_false_iff_eq.mpr c6
            clear c6
            obtain rfl := Option.some.inj H
            have p5 : 0 ≤ (x5_1 : Int) := of_decide_eq_true (by first | (with_reducible assumption) | assumption)
            have q5 : x5_1 < (a0.size : Int) := of_decide_eq_true (by first | (with_reducible assumption) | assumption)
            have hx5 := bt_at a0 x5_1
            replace p5 := eq_true p5
            replace q5 := eq_true q5
            go_wp2
            go_ret
            exact ⟨by first | rfl | (simp; done) | (simp [*]; done), by repeat (first | exact Drawn0.refl _ | apply Drawn0.step)⟩
          · rw [if_neg c6] at H
            have c6b0 : ((bt a0 x5_1) == a1) = false := beq_eq_false_iff_ne.mpr c6
            have c6b1 : ((bt a0 x5_1) != a1) = true := bne_iff_ne.mpr c6
            have H' := Aside0.mk H
            clear H
            have p5 : 0 ≤ (x5_1 : Int) := of_decide_eq_true (by first | (with_reducible assumption) | assumption)
            have q5 : x5_1 < (a0.size : Int) := of_decide_eq_true (by first | (with_reducible assumption) | assumption)
            have hx5 := bt_at a0 x5_1
            replace p5 := eq_true p5
            replace q5 := eq_true q5
            go_wp2
            go_roundg k1
            case measure => have := HK1.out; omega
            case rel => exact ⟨(wrap64 (x5_1 + 1)), (by first | rfl | (simp; done) | (simp [*]; done)), H', ⟨by have := HK1.out; omega⟩, by repeat (first | exact Drawn0.refl _ | apply Drawn0.step)⟩
        · rw [if_neg c4] at H
          exact absurd H (by simp)
      · rw [if_neg c3] at H
        have c3b0 : decide (x5_1 < (a0.size : Int)) = false := decide_eq_false c3
        clear c3
        obtain rfl := Option.some.inj H
        go_wp2
        go_ret
        exact ⟨by first | rfl | (simp; done) | (simp [*]; done), by repeat (first | exact Drawn0.refl _ | apply Drawn0.step)⟩

/-! ### letterboxref01_Token: function 19 -/
def letterboxref01_Token.f (k : Nat) (a0 : Int) : Option (Bool) := (letterboxref01_In.f k (⟨#[40, 41, 60, 62, 64, 44, 59, 58, 92, 34, 47, 91, 93, 63, 61]⟩ : ByteArray) a0).bind fun t141 => (if a0 > 32 then (if a0 < 127 then (some (!t141)) else (some false)) else (some false))
theorem letterboxref01_Token.mono : ∀ a0 k, LeO (letterboxref01_Token.f k a0) (letterboxref01_Token.f (k + 1) a0) := by
  intro a0 k
  unfold letterboxref01_Token.f
  repeat' first
      | (with_reducible exact letterboxref01_In.mono _ _ _)
      | (with_reducible exact LeO.refl _)
      | (with_reducible exact LeO.none _)
      | (with_reducible refine LeO.ite ?_ ?_)
      | (with_reducible refine LeO.bind ?_ (fun _ => ?_))
      | exact letterboxref01_In.mono _ _ _
      | exact LeO.none _
      | refine LeO.ite ?_ ?_
      | refine LeO.bind ?_ (fun _ => ?_)
set_option maxHeartbeats 8000000 in
set_option maxRecDepth 100000 in
theorem letterboxref01_Token.calls (k : Nat) (a0 : Int) (r : Bool) (w : World) (h : letterboxref01_Token.f k a0 = some r) :
    Calls Try.prog 19 #[.int .u8 a0] w fun e w' => e = .returned (.bool r) ∧ Drawn0 w w' := by
  have H : ((letterboxref01_In.f k (⟨#[40, 41, 60, 62, 64, 44, 59, 58, 92, 34, 47, 91, 93, 63, 61]⟩ : ByteArray) a0).bind fun t141 => (if a0 > 32 then (if a0 < 127 then (some (!t141)) else (some false)) else (some false))) = some r := h
  clear h
  replace H := Option.bind_eq_some_iff.mp H
  obtain ⟨t141, A20, H⟩ := H
  replace H : (if a0 > 32 then (if a0 < 127 then (some (!t141)) else (some false)) else (some false)) = some r := H
  have A2 := Aside0.mk A20
  clear A20
  by_cases c3 : a0 > 32
  · rw [if_pos c3] at H
    have c3b0 : decide (32 < a0) = true := decide_eq_true c3
    clear c3
    by_cases c4 : a0 < 127
    · rw [if_pos c4] at H
      have c4b0 : decide (a0 < 127) = true := decide_eq_true c4
      clear c4
      obtain rfl := Option.some.inj H
      go_enter Try.func19, Try.ntmps19
      go_wp2_with (first | ((with_reducible refine gate_callee (f := 30) rfl ?_); refine goesL_ (some 5) rfl rfl Try.func30 (by kernel_rfl) rfl #[.string (⟨#[40, 41, 60, 62, 64, 44, 59, 58, 92, 34, 47, 91, 93, 63, 61]⟩ : ByteArray), .int .u8 a0] rfl (by (try simp only [List.map_toArray, List.map_cons, List.map_nil]); first | done | rfl | (simp only [List.length_drop, List.length_take]; rfl)) ?_; (with_reducible refine (letterboxref01_In.calls k (⟨#[40, 41, 60, 62, 64, 44, 59, 58, 92, 34, 47, 91, 93, 63, 61]⟩ : ByteArray) a0 t141 _ A2.out).mono ?_); rintro e w' ⟨rfl, ⟨nd, rfl⟩⟩; refine ⟨_, rfl, ?_⟩))
      go_ret
      exact ⟨by first | rfl | (simp; done) | (simp [*]; done), by repeat (first | exact Drawn0.refl _ | apply Drawn0.step)⟩
    · rw [if_neg c4] at H
      have c4b0 : decide (a0 < 127) = false := decide_eq_false c4
      clear c4
      obtain rfl := Option.some.inj H
      go_enter Try.func19, Try.ntmps19
      go_wp2_with (first | ((with_reducible refine gate_callee (f := 30) rfl ?_); refine goesL_ (some 5) rfl rfl Try.func30 (by kernel_rfl) rfl #[.string (⟨#[40, 41, 60, 62, 64, 44, 59, 58, 92, 34, 47, 91, 93, 63, 61]⟩ : ByteArray), .int .u8 a0] rfl (by (try simp only [List.map_toArray, List.map_cons, List.map_nil]); first | done | rfl | (simp only [List.length_drop, List.length_take]; rfl)) ?_; (with_reducible refine (letterboxref01_In.calls k (⟨#[40, 41, 60, 62, 64, 44, 59, 58, 92, 34, 47, 91, 93, 63, 61]⟩ : ByteArray) a0 t141 _ A2.out).mono ?_); rintro e w' ⟨rfl, ⟨nd, rfl⟩⟩; refine ⟨_, rfl, ?_⟩))
      go_ret
      exact ⟨by first | rfl | (simp; done) | (simp [*]; done), by repeat (first | exact Drawn0.refl _ | apply Drawn0.step)⟩
  · rw [if_neg c3] at H
    have c3b0 : decide (32 < a0) = false := decide_eq_false c3
    clear c3
    obtain rfl := Option.some.inj H
    go_enter Try.func19, Try.ntmps19
    go_wp2_with (first | ((with_reducible refine gate_callee (f := 30) rfl ?_); refine goesL_ (some 5) rfl rfl Try.func30 (by kernel_rfl) rfl #[.string (⟨#[40, 41, 60, 62, 64, 44, 59, 58, 92, 34, 47, 91, 93, 63, 61]⟩ : ByteArray), .int .u8 a0] rfl (by (try simp only [List.map_toArray, List.map_cons, List.map_nil]); first | done | rfl | (simp only [List.length_drop, List.length_take]; rfl)) ?_; (with_reducible refine (letterboxref01_In.calls k (⟨#[40, 41, 60, 62, 64, 44, 59, 58, 92, 34, 47, 91, 93, 63, 61]⟩ : ByteArray) a0 t141 _ A2.out).mono ?_); rintro e w' ⟨rfl, ⟨nd, rfl⟩⟩; refine ⟨_, rfl, ?_⟩))
    go_ret
    exact ⟨by first | rfl | (simp; done) | (simp [*]; done), by repeat (first | exact Drawn0.refl _ | apply Drawn0.step)⟩

end Go.Proofs.Ytannphcahjchjaa.P
