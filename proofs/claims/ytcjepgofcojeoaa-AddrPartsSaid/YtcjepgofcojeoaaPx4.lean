-- Written by a program of this session (wip/tools/mk.sh) for this claim: it runs the kit's print with contracts of our own. Lean checks it.
import Derived.Test.YtcjepgofcojeoaaPx0
import Derived.Test.YtcjepgofcojeoaaZStr
import Derived.Test.YtcjepgofcojeoaaPx1
import Derived.Test.YtcjepgofcojeoaaPx3
namespace Go.Proofs.Ytcjepgofcojeoaa.P
open Go.RowKit Go.Proofs.YtcjepgofcojeoaaW.PrintWords Go.Proofs.YtcjepgofcojeoaaW.PrintLast Go.Proofs.YtcjepgofcojeoaaW.PrintMore
attribute [-simp] Int.tmod_tmod_of_dvd
attribute [local go_sem] max2_int min2_int max_two min_two max_three min_three max_four min_four   -- for this text's walks alone
set_option linter.unusedVariables false
set_option linter.unusedSimpArgs false

attribute [local go_sem high] eqA27
/-! ### letterboxlaw10_AddrParts: function 3 -/
mutual
def letterboxlaw10_AddrParts.j0 : Nat → ByteArray → ByteArray → Bool → Option (Bool)
  | 0, _, _, _ => none
  | k + 1, x0, x1, x27 => if x27 = true then (some true) else ((addr_List.f k x0).bind fun bt126 => ((addr_List.f k x1).bind fun bt130 => (if x0.size + 1 ≤ 9223372036854775807 then (if (x0 ++ (⟨#[44]⟩ : ByteArray)).size + x1.size ≤ 9223372036854775807 then ((addr_List.f k ((x0 ++ (⟨#[44]⟩ : ByteArray)) ++ x1)).bind fun bt134 => (if bt126.2 = true then (letterboxlaw10_AddrParts.j1 k x0 bt126.1 bt130.1 bt134.1 bt134.2 (!bt130.2)) else (letterboxlaw10_AddrParts.j1 k x0 bt126.1 bt130.1 bt134.1 bt134.2 true))) else (none)) else (none))))
def letterboxlaw10_AddrParts.j1 : Nat → ByteArray → List (S27) → List (S27) → List (S27) → Bool → Bool → Option (Bool)
  | 0, _, _, _, _, _, _ => none
  | k + 1, x0, x6, x8, x10, x11, x51 => if x51 = true then (if (x6.length : Int) = 0 then (some true) else (some ((x8.length : Int) == 0))) else (letterboxlaw10_AddrParts.l0 k x0 x6 x8 x10 x11 false 0)
def letterboxlaw10_AddrParts.l0 : Nat → ByteArray → List (S27) → List (S27) → List (S27) → Bool → Bool → Int → Option (Bool)
  | 0, _, _, _, _, _, _, _ => none
  | k + 1, x0, x6, x8, x10, x11, x12, x13 => if x13 < (x0.size : Int) then (if x12 = true then (letterboxlaw10_AddrParts.l0 k x0 x6 x8 x10 x11 true (wrap64 (x13 + 1))) else (if 0 ≤ x13 then (if (bt x0 x13) = 40 then (letterboxlaw10_AddrParts.l0 k x0 x6 x8 x10 x11 true (wrap64 (x13 + 1))) else (if (bt x0 x13) = 34 then (letterboxlaw10_AddrParts.l0 k x0 x6 x8 x10 x11 true (wrap64 (x13 + 1))) else (letterboxlaw10_AddrParts.l0 k x0 x6 x8 x10 x11 ((bt x0 x13) == 91) (wrap64 (x13 + 1))))) else (none))) else (if x12 = true then (some true) else (if x11 = true then (letterboxlaw10_AddrParts.j3 k x0 x6 x8 x10 ((x10.length : Int) != (wrap64 ((x6.length : Int) + (x8.length : Int))))) else (letterboxlaw10_AddrParts.j3 k x0 x6 x8 x10 true)))
def letterboxlaw10_AddrParts.j3 : Nat → ByteArray → List (S27) → List (S27) → List (S27) → Bool → Option (Bool)
  | 0, _, _, _, _, _ => none
  | k + 1, x0, x6, x8, x10, x97 => if x97 = true then (some false) else (letterboxlaw10_AddrParts.l1 k x0 x6 x8 x10 0)
def letterboxlaw10_AddrParts.l1 : Nat → ByteArray → List (S27) → List (S27) → List (S27) → Int → Option (Bool)
  | 0, _, _, _, _, _ => none
  | k + 1, x0, x6, x8, x10, x14 => if x14 < (x10.length : Int) then (if x14 < (x6.length : Int) then (if 0 ≤ x14 then (if (!(((rd_T27 x10 x14).f0) == ((rd_T27 x6 x14).f0)) || (!((((rd_T27 x10 x14).f1).toList) == (((rd_T27 x6 x14).f1).toList)) || (!((((rd_T27 x10 x14).f2).toList) == (((rd_T27 x6 x14).f2).toList)) || (!((((rd_T27 x10 x14).f3).toList) == (((rd_T27 x6 x14).f3).toList)))))) = true then (some false) else (if x14 ≥ (x6.length : Int) then (if 0 ≤ (wrap64 (x14 - (x6.length : Int))) then (if (wrap64 (x14 - (x6.length : Int))) < (x8.length : Int) then (if (!(((rd_T27 x10 x14).f0) == ((rd_T27 x8 (wrap64 (x14 - (x6.length : Int)))).f0)) || (!((((rd_T27 x10 x14).f1).toList) == (((rd_T27 x8 (wrap64 (x14 - (x6.length : Int)))).f1).toList)) || (!((((rd_T27 x10 x14).f2).toList) == (((rd_T27 x8 (wrap64 (x14 - (x6.length : Int)))).f2).toList)) || (!((((rd_T27 x10 x14).f3).toList) == (((rd_T27 x8 (wrap64 (x14 - (x6.length : Int)))).f3).toList)))))) = true then (some false) else (letterboxlaw10_AddrParts.l1 k x0 x6 x8 x10 (wrap64 (x14 + 1)))) else (none)) else (none)) else (letterboxlaw10_AddrParts.l1 k x0 x6 x8 x10 (wrap64 (x14 + 1))))) else (none)) else (if x14 ≥ (x6.length : Int) then (if 0 ≤ x14 then (if 0 ≤ (wrap64 (x14 - (x6.length : Int))) then (if (wrap64 (x14 - (x6.length : Int))) < (x8.length : Int) then (if (!(((rd_T27 x10 x14).f0) == ((rd_T27 x8 (wrap64 (x14 - (x6.length : Int)))).f0)) || (!((((rd_T27 x10 x14).f1).toList) == (((rd_T27 x8 (wrap64 (x14 - (x6.length : Int)))).f1).toList)) || (!((((rd_T27 x10 x14).f2).toList) == (((rd_T27 x8 (wrap64 (x14 - (x6.length : Int)))).f2).toList)) || (!((((rd_T27 x10 x14).f3).toList) == (((rd_T27 x8 (wrap64 (x14 - (x6.length : Int)))).f3).toList)))))) = true then (some false) else (letterboxlaw10_AddrParts.l1 k x0 x6 x8 x10 (wrap64 (x14 + 1)))) else (none)) else (none)) else (none)) else (letterboxlaw10_AddrParts.l1 k x0 x6 x8 x10 (wrap64 (x14 + 1))))) else (if 8 + x0.size ≤ 9223372036854775807 then (if ((⟨#[32, 40, 99, 40, 100, 41, 41, 32]⟩ : ByteArray) ++ x0).size + 4 ≤ 9223372036854775807 then ((addr_List.f k (((⟨#[32, 40, 99, 40, 100, 41, 41, 32]⟩ : ByteArray) ++ x0) ++ (⟨#[9, 40, 101, 41]⟩ : ByteArray))).bind fun bt144 => (if bt144.2 = true then (some ((bt144.1.length : Int) == (x6.length : Int))) else (some false))) else (none)) else (none))
end
def letterboxlaw10_AddrParts.f (k : Nat) (a0 : ByteArray) (a1 : ByteArray) : Option (Bool) := (letterboxlaw10_awake.f k).bind fun t125 => (if t125 = true then (if (a0.size : Int) > 150 then (letterboxlaw10_AddrParts.j0 k a0 a1 true) else (letterboxlaw10_AddrParts.j0 k a0 a1 (decide ((a1.size : Int) > 150)))) else (some false))
theorem letterboxlaw10_AddrParts.mono_l : ∀ k, (∀ y0 y1 y2, LeO (letterboxlaw10_AddrParts.j0 k y0 y1 y2) (letterboxlaw10_AddrParts.j0 (k + 1) y0 y1 y2)) ∧ (∀ y0 y1 y2 y3 y4 y5, LeO (letterboxlaw10_AddrParts.j1 k y0 y1 y2 y3 y4 y5) (letterboxlaw10_AddrParts.j1 (k + 1) y0 y1 y2 y3 y4 y5)) ∧ (∀ y0 y1 y2 y3 y4 y5 y6, LeO (letterboxlaw10_AddrParts.l0 k y0 y1 y2 y3 y4 y5 y6) (letterboxlaw10_AddrParts.l0 (k + 1) y0 y1 y2 y3 y4 y5 y6)) ∧ (∀ y0 y1 y2 y3 y4, LeO (letterboxlaw10_AddrParts.j3 k y0 y1 y2 y3 y4) (letterboxlaw10_AddrParts.j3 (k + 1) y0 y1 y2 y3 y4)) ∧ (∀ y0 y1 y2 y3 y4, LeO (letterboxlaw10_AddrParts.l1 k y0 y1 y2 y3 y4) (letterboxlaw10_AddrParts.l1 (k + 1) y0 y1 y2 y3 y4))
  | 0 => ⟨fun _ _ _ r h => by simp [letterboxlaw10_AddrParts.j0] at h, fun _ _ _ _ _ _ r h => by simp [letterboxlaw10_AddrParts.j1] at h, fun _ _ _ _ _ _ _ r h => by simp [letterboxlaw10_AddrParts.l0] at h, fun _ _ _ _ _ r h => by simp [letterboxlaw10_AddrParts.j3] at h, fun _ _ _ _ _ r h => by simp [letterboxlaw10_AddrParts.l1] at h⟩
  | k + 1 => by
    obtain ⟨ih0, ih1, ih2, ih3, ih4⟩ := letterboxlaw10_AddrParts.mono_l k
    refine ⟨?_, ?_, ?_, ?_, ?_⟩
    · intro y0 y1 y2
      unfold letterboxlaw10_AddrParts.j0
      repeat' first
      | (with_reducible exact ih0 _ _ _)
      | (with_reducible exact ih1 _ _ _ _ _ _)
      | (with_reducible exact ih2 _ _ _ _ _ _ _)
      | (with_reducible exact ih3 _ _ _ _ _)
      | (with_reducible exact ih4 _ _ _ _ _)
      | (with_reducible exact addr_List.mono _ _)
      | (with_reducible exact letterboxlaw10_awake.mono _)
      | (with_reducible exact LeO.refl _)
      | (with_reducible exact LeO.none _)
      | (with_reducible refine LeO.ite ?_ ?_)
      | (with_reducible refine LeO.bind ?_ (fun _ => ?_))
      | exact ih0 _ _ _
      | exact ih1 _ _ _ _ _ _
      | exact ih2 _ _ _ _ _ _ _
      | exact ih3 _ _ _ _ _
      | exact ih4 _ _ _ _ _
      | exact addr_List.mono _ _
      | exact letterboxlaw10_awake.mono _
      | exact LeO.none _
      | refine LeO.ite ?_ ?_
      | refine LeO.bind ?_ (fun _ => ?_)
    · intro y0 y1 y2 y3 y4 y5
      unfold letterboxlaw10_AddrParts.j1
      repeat' first
      | (with_reducible exact ih0 _ _ _)
      | (with_reducible exact ih1 _ _ _ _ _ _)
      | (with_reducible exact ih2 _ _ _ _ _ _ _)
      | (with_reducible exact ih3 _ _ _ _ _)
      | (with_reducible exact ih4 _ _ _ _ _)
      | (with_reducible exact addr_List.mono _ _)
      | (with_reducible exact letterboxlaw10_awake.mono _)
      | (with_reducible exact LeO.refl _)
      | (with_reducible exact LeO.none _)
      | (with_reducible refine LeO.ite ?_ ?_)
      | (with_reducible refine LeO.bind ?_ (fun _ => ?_))
      | exact ih0 _ _ _
      | exact ih1 _ _ _ _ _ _
      | exact ih2 _ _ _ _ _ _ _
      | exact ih3 _ _ _ _ _
      | exact ih4 _ _ _ _ _
      | exact addr_List.mono _ _
      | exact letterboxlaw10_awake.mono _
      | exact LeO.none _
      | refine LeO.ite ?_ ?_
      | refine LeO.bind ?_ (fun _ => ?_)
    · intro y0 y1 y2 y3 y4 y5 y6
      unfold letterboxlaw10_AddrParts.l0
      repeat' first
      | (with_reducible exact ih0 _ _ _)
      | (with_reducible exact ih1 _ _ _ _ _ _)
      | (with_reducible exact ih2 _ _ _ _ _ _ _)
      | (with_reducible exact ih3 _ _ _ _ _)
      | (with_reducible exact ih4 _ _ _ _ _)
      | (with_reducible exact addr_List.mono _ _)
      | (with_reducible exact letterboxlaw10_awake.mono _)
      | (with_reducible exact LeO.refl _)
      | (with_reducible exact LeO.none _)
      | (with_reducible refine LeO.ite ?_ ?_)
      | (with_reducible refine LeO.bind ?_ (fun _ => ?_))
      | exact ih0 _ _ _
      | exact ih1 _ _ _ _ _ _
      | exact ih2 _ _ _ _ _ _ _
      | exact ih3 _ _ _ _ _
      | exact ih4 _ _ _ _ _
      | exact addr_List.mono _ _
      | exact letterboxlaw10_awake.mono _
      | exact LeO.none _
      | refine LeO.ite ?_ ?_
      | refine LeO.bind ?_ (fun _ => ?_)
    · intro y0 y1 y2 y3 y4
      unfold letterboxlaw10_AddrParts.j3
      repeat' first
      | (with_reducible exact ih0 _ _ _)
      | (with_reducible exact ih1 _ _ _ _ _ _)
      | (with_reducible exact ih2 _ _ _ _ _ _ _)
      | (with_reducible exact ih3 _ _ _ _ _)
      | (with_reducible exact ih4 _ _ _ _ _)
      | (with_reducible exact addr_List.mono _ _)
      | (with_reducible exact letterboxlaw10_awake.mono _)
      | (with_reducible exact LeO.refl _)
      | (with_reducible exact LeO.none _)
      | (with_reducible refine LeO.ite ?_ ?_)
      | (with_reducible refine LeO.bind ?_ (fun _ => ?_))
      | exact ih0 _ _ _
      | exact ih1 _ _ _ _ _ _
      | exact ih2 _ _ _ _ _ _ _
      | exact ih3 _ _ _ _ _
      | exact ih4 _ _ _ _ _
      | exact addr_List.mono _ _
      | exact letterboxlaw10_awake.mono _
      | exact LeO.none _
      | refine LeO.ite ?_ ?_
      | refine LeO.bind ?_ (fun _ => ?_)
    · intro y0 y1 y2 y3 y4
      unfold letterboxlaw10_AddrParts.l1
      repeat' first
      | (with_reducible exact ih0 _ _ _)
      | (with_reducible exact ih1 _ _ _ _ _ _)
      | (with_reducible exact ih2 _ _ _ _ _ _ _)
      | (with_reducible exact ih3 _ _ _ _ _)
      | (with_reducible exact ih4 _ _ _ _ _)
      | (with_reducible exact addr_List.mono _ _)
      | (with_reducible exact letterboxlaw10_awake.mono _)
      | (with_reducible exact LeO.refl _)
      | (with_reducible exact LeO.none _)
      | (with_reducible refine LeO.ite ?_ ?_)
      | (with_reducible refine LeO.bind ?_ (fun _ => ?_))
      | exact ih0 _ _ _
      | exact ih1 _ _ _ _ _ _
      | exact ih2 _ _ _ _ _ _ _
      | exact ih3 _ _ _ _ _
      | exact ih4 _ _ _ _ _
      | exact addr_List.mono _ _
      | exact letterboxlaw10_awake.mono _
      | exact LeO.none _
      | refine LeO.ite ?_ ?_
      | refine LeO.bind ?_ (fun _ => ?_)
theorem letterboxlaw10_AddrParts.mono : ∀ a0 a1 k, LeO (letterboxlaw10_AddrParts.f k a0 a1) (letterboxlaw10_AddrParts.f (k + 1) a0 a1) := by
  intro a0 a1 k
  obtain ⟨ih0, ih1, ih2, ih3, ih4⟩ := letterboxlaw10_AddrParts.mono_l k
  unfold letterboxlaw10_AddrParts.f
  repeat' first
      | (with_reducible exact ih0 _ _ _)
      | (with_reducible exact ih1 _ _ _ _ _ _)
      | (with_reducible exact ih2 _ _ _ _ _ _ _)
      | (with_reducible exact ih3 _ _ _ _ _)
      | (with_reducible exact ih4 _ _ _ _ _)
      | (with_reducible exact addr_List.mono _ _)
      | (with_reducible exact letterboxlaw10_awake.mono _)
      | (with_reducible exact LeO.refl _)
      | (with_reducible exact LeO.none _)
      | (with_reducible refine LeO.ite ?_ ?_)
      | (with_reducible refine LeO.bind ?_ (fun _ => ?_))
      | exact ih0 _ _ _
      | exact ih1 _ _ _ _ _ _
      | exact ih2 _ _ _ _ _ _ _
      | exact ih3 _ _ _ _ _
      | exact ih4 _ _ _ _ _
      | exact addr_List.mono _ _
      | exact letterboxlaw10_awake.mono _
      | exact LeO.none _
      | refine LeO.ite ?_ ?_
      | refine LeO.bind ?_ (fun _ => ?_)
set_option maxHeartbeats 8000000 in
set_option maxRecDepth 100000 in
theorem letterboxlaw10_AddrParts.calls (k : Nat) (a0 : ByteArray) (a1 : ByteArray) (r : Bool) (w : World) (h : letterboxlaw10_AddrParts.f k a0 a1 = some r) :
    Calls Try.prog 3 #[.string a0, .string a1] w fun e w' => e = .returned (.bool r) ∧ Below w.heap.size w w' := by
  have hu27 := Try.underlying27
  have hw8_ : ∀ x_ : Int, IntKind.u8.wrap x_ = x_ % 256 := IntKind.wrap_u8
  have HB := Aside0.mk (Below.refl w.heap.size w)
  have H : ((letterboxlaw10_awake.f k).bind fun t125 => (if t125 = true then (if (a0.size : Int) > 150 then (letterboxlaw10_AddrParts.j0 k a0 a1 true) else (letterboxlaw10_AddrParts.j0 k a0 a1 (decide ((a1.size : Int) > 150)))) else (some false))) = some r := h
  clear h
  replace H := Option.bind_eq_some_iff.mp H
  obtain ⟨t125, A30, H⟩ := H
  replace H : (if t125 = true then (if (a0.size : Int) > 150 then (letterboxlaw10_AddrParts.j0 k a0 a1 true) else (letterboxlaw10_AddrParts.j0 k a0 a1 (decide ((a1.size : Int) > 150)))) else (some false)) = some r := H
  have A3 := Aside0.mk A30
  clear A30
  by_cases c4 : t125 = true
  · subst c4
    have H1 : (if (a0.size : Int) > 150 then (letterboxlaw10_AddrParts.j0 k a0 a1 true) else (letterboxlaw10_AddrParts.j0 k a0 a1 (decide ((a1.size : Int) > 150)))) = some r := by rw [if_pos rfl] at H; exact H
    clear H
    have H := H1
    clear H1
    have HC5 := Aside0.mk H
    clear H
    go_enter Try.func3, Try.ntmps3
    go_upto_region 4 with (first | (go_at_call 7; (with_reducible refine (letterboxlaw10_awake.calls k  true _ A3.out).mono ?_); rintro e w6 ⟨rfl, hb⟩; have n0_ := Aside0.mk (below_step (by repeat (first | (with_reducible first | exact HB.out | apply below_alloc | apply pw_below_drewN | apply below_drew1) | exact HB.out)) hb); clear HB; have HB := n0_; clear n0_; (try clear hb); (try clear hb2); (try clear hk); (try clear hi)))
    repeat (go_quiet (first | (go_at_call 7; (with_reducible refine (letterboxlaw10_awake.calls k  true _ A3.out).mono ?_); rintro e w6 ⟨rfl, hb⟩; have n0_ := Aside0.mk (below_step (by repeat (first | (with_reducible first | exact HB.out | apply below_alloc | apply pw_below_drewN | apply below_drew1) | exact HB.out)) hb); clear HB; have HB := n0_; clear n0_; (try clear hb); (try clear hb2); (try clear hk); (try clear hi))); go_upto_region 4 with (first | (go_at_call 7; (with_reducible refine (letterboxlaw10_awake.calls k  true _ A3.out).mono ?_); rintro e w6 ⟨rfl, hb⟩; have n0_ := Aside0.mk (below_step (by repeat (first | (with_reducible first | exact HB.out | apply below_alloc | apply pw_below_drewN | apply below_drew1) | exact HB.out)) hb); clear HB; have HB := n0_; clear n0_; (try clear hb); (try clear hb2); (try clear hk); (try clear hi))))
    (try simp only [Act.put, List.setIfInBounds_toArray, List.set_cons_zero, List.set_cons_succ])
    go_cut [27] (fun v27 wc => ∃ (kq : Nat) (x27_4 : Bool), v27 = .bool x27_4 ∧ Aside0 (letterboxlaw10_AddrParts.j0 kq a0 a1 x27_4 = some r) ∧ Aside0 (kq ≤ k) ∧ Aside0 (Below w.heap.size w wc))
    case first =>
      have H := HC5.out
      clear HC5
      by_cases c7 : (a0.size : Int) > 150
      · rw [if_pos c7] at H
        have c7b0 : decide (150 < (a0.size : Int)) = true := decide_eq_true c7
        have c7b1 : decide (150 < a0.size) = true := decide_eq_true (by omega)
        clear c7
        (first | rw [c7b0] | (simp only [i64_w, i32_w]; rw [c7b0]) | skip)
        have H' := Aside0.mk H
        clear H
        go_wp2
        repeat (go_quiet (fail); try go_wp2)
        go_meet
        case rel => exact ⟨_, (true), (by first | rfl | (simp; done) | (simp [*]; done)), H', ⟨by first | omega | exact Nat.le_refl _⟩, ⟨by repeat (first | (with_reducible first | exact HB.out | apply below_alloc | apply pw_below_drewN | apply below_drew1) | exact HB.out)⟩⟩
      · rw [if_neg c7] at H
        have c7b0 : decide (150 < (a0.size : Int)) = false := decide_eq_false c7
        have c7b1 : decide (150 < a0.size) = false := decide_eq_false (by omega)
        clear c7
        (first | rw [c7b0] | (simp only [i64_w, i32_w]; rw [c7b0]) | skip)
        have H' := Aside0.mk H
        clear H
        go_wp2
        repeat (go_quiet (fail); try go_wp2)
        go_meet
        case rel => exact ⟨_, (decide ((a1.size : Int) > 150)), (by first | rfl | (simp; done) | (simp [*]; done)), H', ⟨by first | omega | exact Nat.le_refl _⟩, ⟨by repeat (first | (with_reducible first | exact HB.out | apply below_alloc | apply pw_below_drewN | apply below_drew1) | exact HB.out)⟩⟩
    case rest =>
      clear HC5
      try clear p2
      try clear c3
      try clear c4
      try clear c7
      try clear c7b0
      try clear c7b1
      obtain ⟨kq, x27_4, rfl, HA, HJ4, HB⟩ := hcut
      cases kq with
      | zero => exact absurd HA.out (by simp [letterboxlaw10_AddrParts.j0])
      | succ kj4 =>
        have H := HA.out
        clear HA
        simp only [letterboxlaw10_AddrParts.j0] at H
        by_cases c8 : x27_4 = true
        · subst c8
          have H1 : (some true) = some r := by rw [if_pos rfl] at H; exact H
          clear H
          have H := H1
          clear H1
          obtain rfl := Option.some.inj H
          go_wp2
          repeat (go_quiet (fail); try go_wp2)
          go_ret
          exact ⟨by first | rfl | (simp [errW_none, errW_some] <;> rfl) | (simp [*, errW_none, errW_some] <;> rfl), by repeat (first | (with_reducible first | exact HB.out | apply below_alloc | apply pw_below_drewN | apply below_drew1) | exact HB.out)⟩
        · replace c8 := Bool.eq_false_iff.mpr c8
          subst c8
          have H1 : ((addr_List.f kj4 a0).bind fun bt126 => ((addr_List.f kj4 a1).bind fun bt130 => (if a0.size + 1 ≤ 9223372036854775807 then (if (a0 ++ (⟨#[44]⟩ : ByteArray)).size + a1.size ≤ 9223372036854775807 then ((addr_List.f kj4 ((a0 ++ (⟨#[44]⟩ : ByteArray)) ++ a1)).bind fun bt134 => (if bt126.2 = true then (letterboxlaw10_AddrParts.j1 kj4 a0 bt126.1 bt130.1 bt134.1 bt134.2 (!bt130.2)) else (letterboxlaw10_AddrParts.j1 kj4 a0 bt126.1 bt130.1 bt134.1 bt134.2 true))) else (none)) else (none)))) = some r := by rw [if_neg (show ¬ (false = true) by decide)] at H; exact H
          clear H
          have H := H1
          clear H1
          replace H := Option.bind_eq_some_iff.mp H
          obtain ⟨⟨t126, t127⟩, A90, H⟩ := H
          replace H : ((addr_List.f kj4 a1).bind fun bt130 => (if a0.size + 1 ≤ 9223372036854775807 then (if (a0 ++ (⟨#[44]⟩ : ByteArray)).size + a1.size ≤ 9223372036854775807 then ((addr_List.f kj4 ((a0 ++ (⟨#[44]⟩ : ByteArray)) ++ a1)).bind fun bt134 => (if t127 = true then (letterboxlaw10_AddrParts.j1 kj4 a0 t126 bt130.1 bt134.1 bt134.2 (!bt130.2)) else (letterboxlaw10_AddrParts.j1 kj4 a0 t126 bt130.1 bt134.1 bt134.2 true))) else (none)) else (none))) = some r := H
          have A9 := Aside0.mk A90
          clear A90
          replace H := Option.bind_eq_some_iff.mp H
          obtain ⟨⟨t130, t131⟩, A100, H⟩ := H
          replace H : (if a0.size + 1 ≤ 9223372036854775807 then (if (a0 ++ (⟨#[44]⟩ : ByteArray)).size + a1.size ≤ 9223372036854775807 then ((addr_List.f kj4 ((a0 ++ (⟨#[44]⟩ : ByteArray)) ++ a1)).bind fun bt134 => (if t127 = true then (letterboxlaw10_AddrParts.j1 kj4 a0 t126 t130 bt134.1 bt134.2 (!t131)) else (letterboxlaw10_AddrParts.j1 kj4 a0 t126 t130 bt134.1 bt134.2 true))) else (none)) else (none)) = some r := H
          have A10 := Aside0.mk A100
          clear A100
          by_cases c11 : a0.size + 1 ≤ 9223372036854775807
          · rw [if_pos c11] at H
            have c11b0 := eq_true c11
            have c11b1 : decide (a0.size + 1 ≤ 9223372036854775807) = true := decide_eq_true c11
            try have c11b2 : (9223372036854775807 < a0.size + 1) = False := eq_false (Nat.not_lt.2 c11)
            by_cases c12 : (a0 ++ (⟨#[44]⟩ : ByteArray)).size + a1.size ≤ 9223372036854775807
            · rw [if_pos c12] at H
              have c12b0 := eq_true c12
              have c12b1 : decide ((a0 ++ (⟨#[44]⟩ : ByteArray)).size + a1.size ≤ 9223372036854775807) = true := decide_eq_true c12
              try have c12b2 : (9223372036854775807 < (a0 ++ (⟨#[44]⟩ : ByteArray)).size + a1.size) = False := eq_false (Nat.not_lt.2 c12)
              try have c12b4 : (9223372036854775807 < a0.size + 1 + a1.size) = False := eq_false (Nat.not_lt.2 (by have h_ := c12; simp only [ByteArray.size_append] at h_; exact h_))
              replace H := Option.bind_eq_some_iff.mp H
              obtain ⟨⟨t134, t135⟩, A130, H⟩ := H
              replace H : (if t127 = true then (letterboxlaw10_AddrParts.j1 kj4 a0 t126 t130 t134 t135 (!t131)) else (letterboxlaw10_AddrParts.j1 kj4 a0 t126 t130 t134 t135 true)) = some r := H
              have A13 := Aside0.mk A130
              clear A130
              have HC14 := Aside0.mk H
              clear H
              go_upto_region 9 with (first | (go_at_call 8; (with_reducible refine (addr_List.calls kj4 a0 t126 t127 _ A9.out).mono ?_); rintro e w15 ⟨v128, rfl, ho0, hb⟩; have n0_ := Aside0.mk (Kd.R_lower ho0 (below_size (by repeat (first | (with_reducible first | exact HB.out | apply below_alloc | apply pw_below_drewN | apply below_drew1) | exact HB.out)))); have n1_ := Aside0.mk (below_step (by repeat (first | (with_reducible first | exact HB.out | apply below_alloc | apply pw_below_drewN | apply below_drew1) | exact HB.out)) hb); clear HB; have HO129 := n0_; have HB := n1_; clear n0_ n1_; (try clear hb); (try clear hb2); (try clear hk); (try clear hi); (try clear ho0)) | (go_at_call 8; (with_reducible refine (addr_List.calls kj4 a1 t130 t131 _ A10.out).mono ?_); rintro e w16 ⟨v132, rfl, ho0, hb⟩; have n0_ := Aside0.mk (Kd.R_elder' (by (with_reducible repeat (first | apply Kd.R_alloc | apply Kd.R_drewN | apply Kd.R_drew)); exact HO129.out) (Kd.R_base ho0) hb); have n1_ := Aside0.mk (Kd.R_lower (Kd.R_new' ho0 (Kd.R_lt (by (with_reducible repeat (first | apply Kd.R_alloc | apply Kd.R_drewN | apply Kd.R_drew)); exact HO129.out))) (below_size (by repeat (first | (with_reducible first | exact HB.out | apply below_alloc | apply pw_below_drewN | apply below_drew1) | exact HB.out)))); have n2_ := Aside0.mk (below_step (by repeat (first | (with_reducible first | exact HB.out | apply below_alloc | apply pw_below_drewN | apply below_drew1) | exact HB.out)) hb); clear HO129; clear HB; have HO129 := n0_; have HO133 := n1_; have HB := n2_; clear n0_ n1_ n2_; (try clear hb); (try clear hb2); (try clear hk); (try clear hi); (try clear ho0)) | (go_at_call 8; (with_reducible refine (addr_List.calls kj4 ((a0 ++ (⟨#[44]⟩ : ByteArray)) ++ a1) t134 t135 _ A13.out).mono ?_); rintro e w17 ⟨v136, rfl, ho0, hb⟩; have n0_ := Aside0.mk (Kd.R_elder' (by (with_reducible repeat (first | apply Kd.R_alloc | apply Kd.R_drewN | apply Kd.R_drew)); exact HO129.out) (Kd.R_base ho0) hb); have n1_ := Aside0.mk (Kd.R_elder' (by (with_reducible repeat (first | apply Kd.R_alloc | apply Kd.R_drewN | apply Kd.R_drew)); exact HO133.out) (Kd.R_base ho0) hb); have n2_ := Aside0.mk (Kd.R_lower (Kd.R_new' (Kd.R_new' ho0 (Kd.R_lt (by (with_reducible repeat (first | apply Kd.R_alloc | apply Kd.R_drewN | apply Kd.R_drew)); exact HO129.out))) (Kd.R_lt (by (with_reducible repeat (first | apply Kd.R_alloc | apply Kd.R_drewN | apply Kd.R_drew)); exact HO133.out))) (below_size (by repeat (first | (with_reducible first | exact HB.out | apply below_alloc | apply pw_below_drewN | apply below_drew1) | exact HB.out)))); have n3_ := Aside0.mk (below_step (by repeat (first | (with_reducible first | exact HB.out | apply below_alloc | apply pw_below_drewN | apply below_drew1) | exact HB.out)) hb); clear HO129; clear HO133; clear HB; have HO129 := n0_; have HO133 := n1_; have HO137 := n2_; have HB := n3_; clear n0_ n1_ n2_ n3_; (try clear hb); (try clear hb2); (try clear hk); (try clear hi); (try clear ho0)))
              repeat (go_quiet (first | (go_at_call 8; (with_reducible refine (addr_List.calls kj4 a0 t126 t127 _ A9.out).mono ?_); rintro e w15 ⟨v128, rfl, ho0, hb⟩; have n0_ := Aside0.mk (Kd.R_lower ho0 (below_size (by repeat (first | (with_reducible first | exact HB.out | apply below_alloc | apply pw_below_drewN | apply below_drew1) | exact HB.out)))); have n1_ := Aside0.mk (below_step (by repeat (first | (with_reducible first | exact HB.out | apply below_alloc | apply pw_below_drewN | apply below_drew1) | exact HB.out)) hb); clear HB; have HO129 := n0_; have HB := n1_; clear n0_ n1_; (try clear hb); (try clear hb2); (try clear hk); (try clear hi); (try clear ho0)) | (go_at_call 8; (with_reducible refine (addr_List.calls kj4 a1 t130 t131 _ A10.out).mono ?_); rintro e w16 ⟨v132, rfl, ho0, hb⟩; have n0_ := Aside0.mk (Kd.R_elder' (by (with_reducible repeat (first | apply Kd.R_alloc | apply Kd.R_drewN | apply Kd.R_drew)); exact HO129.out) (Kd.R_base ho0) hb); have n1_ := Aside0.mk (Kd.R_lower (Kd.R_new' ho0 (Kd.R_lt (by (with_reducible repeat (first | apply Kd.R_alloc | apply Kd.R_drewN | apply Kd.R_drew)); exact HO129.out))) (below_size (by repeat (first | (with_reducible first | exact HB.out | apply below_alloc | apply pw_below_drewN | apply below_drew1) | exact HB.out)))); have n2_ := Aside0.mk (below_step (by repeat (first | (with_reducible first | exact HB.out | apply below_alloc | apply pw_below_drewN | apply below_drew1) | exact HB.out)) hb); clear HO129; clear HB; have HO129 := n0_; have HO133 := n1_; have HB := n2_; clear n0_ n1_ n2_; (try clear hb); (try clear hb2); (try clear hk); (try clear hi); (try clear ho0)) | (go_at_call 8; (with_reducible refine (addr_List.calls kj4 ((a0 ++ (⟨#[44]⟩ : ByteArray)) ++ a1) t134 t135 _ A13.out).mono ?_); rintro e w17 ⟨v136, rfl, ho0, hb⟩; have n0_ := Aside0.mk (Kd.R_elder' (by (with_reducible repeat (first | apply Kd.R_alloc | apply Kd.R_drewN | apply Kd.R_drew)); exact HO129.out) (Kd.R_base ho0) hb); have n1_ := Aside0.mk (Kd.R_elder' (by (with_reducible repeat (first | apply Kd.R_alloc | apply Kd.R_drewN | apply Kd.R_drew)); exact HO133.out) (Kd.R_base ho0) hb); have n2_ := Aside0.mk (Kd.R_lower (Kd.R_new' (Kd.R_new' ho0 (Kd.R_lt (by (with_reducible repeat (first | apply Kd.R_alloc | apply Kd.R_drewN | apply Kd.R_drew)); exact HO129.out))) (Kd.R_lt (by (with_reducible repeat (first | apply Kd.R_alloc | apply Kd.R_drewN | apply Kd.R_drew)); exact HO133.out))) (below_size (by repeat (first | (with_reducible first | exact HB.out | apply below_alloc | apply pw_below_drewN | apply below_drew1) | exact HB.out)))); have n3_ := Aside0.mk (below_step (by repeat (first | (with_reducible first | exact HB.out | apply below_alloc | apply pw_below_drewN | apply below_drew1) | exact HB.out)) hb); clear HO129; clear HO133; clear HB; have HO129 := n0_; have HO133 := n1_; have HO137 := n2_; have HB := n3_; clear n0_ n1_ n2_ n3_; (try clear hb); (try clear hb2); (try clear hk); (try clear hi); (try clear ho0))); go_upto_region 9 with (first | (go_at_call 8; (with_reducible refine (addr_List.calls kj4 a0 t126 t127 _ A9.out).mono ?_); rintro e w15 ⟨v128, rfl, ho0, hb⟩; have n0_ := Aside0.mk (Kd.R_lower ho0 (below_size (by repeat (first | (with_reducible first | exact HB.out | apply below_alloc | apply pw_below_drewN | apply below_drew1) | exact HB.out)))); have n1_ := Aside0.mk (below_step (by repeat (first | (with_reducible first | exact HB.out | apply below_alloc | apply pw_below_drewN | apply below_drew1) | exact HB.out)) hb); clear HB; have HO129 := n0_; have HB := n1_; clear n0_ n1_; (try clear hb); (try clear hb2); (try clear hk); (try clear hi); (try clear ho0)) | (go_at_call 8; (with_reducible refine (addr_List.calls kj4 a1 t130 t131 _ A10.out).mono ?_); rintro e w16 ⟨v132, rfl, ho0, hb⟩; have n0_ := Aside0.mk (Kd.R_elder' (by (with_reducible repeat (first | apply Kd.R_alloc | apply Kd.R_drewN | apply Kd.R_drew)); exact HO129.out) (Kd.R_base ho0) hb); have n1_ := Aside0.mk (Kd.R_lower (Kd.R_new' ho0 (Kd.R_lt (by (with_reducible repeat (first | apply Kd.R_alloc | apply Kd.R_drewN | apply Kd.R_drew)); exact HO129.out))) (below_size (by repeat (first | (with_reducible first | exact HB.out | apply below_alloc | apply pw_below_drewN | apply below_drew1) | exact HB.out)))); have n2_ := Aside0.mk (below_step (by repeat (first | (with_reducible first | exact HB.out | apply below_alloc | apply pw_below_drewN | apply below_drew1) | exact HB.out)) hb); clear HO129; clear HB; have HO129 := n0_; have HO133 := n1_; have HB := n2_; clear n0_ n1_ n2_; (try clear hb); (try clear hb2); (try clear hk); (try clear hi); (try clear ho0)) | (go_at_call 8; (with_reducible refine (addr_List.calls kj4 ((a0 ++ (⟨#[44]⟩ : ByteArray)) ++ a1) t134 t135 _ A13.out).mono ?_); rintro e w17 ⟨v136, rfl, ho0, hb⟩; have n0_ := Aside0.mk (Kd.R_elder' (by (with_reducible repeat (first | apply Kd.R_alloc | apply Kd.R_drewN | apply Kd.R_drew)); exact HO129.out) (Kd.R_base ho0) hb); have n1_ := Aside0.mk (Kd.R_elder' (by (with_reducible repeat (first | apply Kd.R_alloc | apply Kd.R_drewN | apply Kd.R_drew)); exact HO133.out) (Kd.R_base ho0) hb); have n2_ := Aside0.mk (Kd.R_lower (Kd.R_new' (Kd.R_new' ho0 (Kd.R_lt (by (with_reducible repeat (first | apply Kd.R_alloc | apply Kd.R_drewN | apply Kd.R_drew)); exact HO129.out))) (Kd.R_lt (by (with_reducible repeat (first | apply Kd.R_alloc | apply Kd.R_drewN | apply Kd.R_drew)); exact HO133.out))) (below_size (by repeat (first | (with_reducible first | exact HB.out | apply below_alloc | apply pw_below_drewN | apply below_drew1) | exact HB.out)))); have n3_ := Aside0.mk (below_step (by repeat (first | (with_reducible first | exact HB.out | apply below_alloc | apply pw_below_drewN | apply below_drew1) | exact HB.out)) hb); clear HO129; clear HO133; clear HB; have HO129 := n0_; have HO133 := n1_; have HO137 := n2_; have HB := n3_; clear n0_ n1_ n2_ n3_; (try clear hb); (try clear hb2); (try clear hk); (try clear hi); (try clear ho0))))
              (try simp only [Act.put, List.setIfInBounds_toArray, List.set_cons_zero, List.set_cons_succ])
              go_cut [51] (fun v51 wc => ∃ (kq : Nat) (x51_13 : Bool), v51 = .bool x51_13 ∧ Aside0 (letterboxlaw10_AddrParts.j1 kq a0 t126 t130 t134 t135 x51_13 = some r) ∧ Aside0 (kq ≤ kj4) ∧ Aside0 (Kd.R k27 27 wc w.heap.size (fun k_ => some k_ ≠ (v132 : Value).ownBlock ∧ some k_ ≠ (v136 : Value).ownBlock) v128 t126) ∧ Aside0 (Kd.R k27 27 wc w.heap.size (fun k_ => some k_ ≠ (v128 : Value).ownBlock ∧ some k_ ≠ (v136 : Value).ownBlock) v132 t130) ∧ Aside0 (Kd.R k27 27 wc w.heap.size (fun k_ => some k_ ≠ (v128 : Value).ownBlock ∧ some k_ ≠ (v132 : Value).ownBlock) v136 t134) ∧ Aside0 (Below w.heap.size w wc))
              case first =>
                have H := HC14.out
                clear HC14
                by_cases c18 : t127 = true
                · subst c18
                  have H1 : (letterboxlaw10_AddrParts.j1 kj4 a0 t126 t130 t134 t135 (!t131)) = some r := by rw [if_pos rfl] at H; exact H
                  clear H
                  have H := H1
                  clear H1
                  have H' := Aside0.mk H
                  clear H
                  go_wp2
                  repeat (go_quiet (fail); try go_wp2)
                  go_meet
                  case rel => exact ⟨_, (!t131), (by first | rfl | (simp; done) | (simp [*]; done)), H', ⟨by have := HJ4.out; first | omega | exact Nat.le_refl _⟩, ⟨by (with_reducible repeat (first | apply Kd.R_alloc | apply Kd.R_drewN | apply Kd.R_drew)); exact Kd.R_mono HO129.out (fun _ hk => ⟨hk.1.2, hk.2⟩)⟩, ⟨by (with_reducible repeat (first | apply Kd.R_alloc | apply Kd.R_drewN | apply Kd.R_drew)); exact Kd.R_mono HO133.out (fun _ hk => ⟨hk.1.2, hk.2⟩)⟩, ⟨by (with_reducible repeat (first | apply Kd.R_alloc | apply Kd.R_drewN | apply Kd.R_drew)); exact Kd.R_mono HO137.out (fun _ hk => ⟨hk.1.2, hk.2⟩)⟩, ⟨by repeat (first | (with_reducible first | exact HB.out | apply below_alloc | apply pw_below_drewN | apply below_drew1) | exact HB.out)⟩⟩
                · replace c18 := Bool.eq_false_iff.mpr c18
                  subst c18
                  have H1 : (letterboxlaw10_AddrParts.j1 kj4 a0 t126 t130 t134 t135 true) = some r := by rw [if_neg (show ¬ (false = true) by decide)] at H; exact H
                  clear H
                  have H := H1
                  clear H1
                  have H' := Aside0.mk H
                  clear H
                  go_wp2
                  repeat (go_quiet (fail); try go_wp2)
                  go_meet
                  case rel => exact ⟨_, (true), (by first | rfl | (simp; done) | (simp [*]; done)), H', ⟨by have := HJ4.out; first | omega | exact Nat.le_refl _⟩, ⟨by (with_reducible repeat (first | apply Kd.R_alloc | apply Kd.R_drewN | apply Kd.R_drew)); exact Kd.R_mono HO129.out (fun _ hk => ⟨hk.1.2, hk.2⟩)⟩, ⟨by (with_reducible repeat (first | apply Kd.R_alloc | apply Kd.R_drewN | apply Kd.R_drew)); exact Kd.R_mono HO133.out (fun _ hk => ⟨hk.1.2, hk.2⟩)⟩, ⟨by (with_reducible repeat (first | apply Kd.R_alloc | apply Kd.R_drewN | apply Kd.R_drew)); exact Kd.R_mono HO137.out (fun _ hk => ⟨hk.1.2, hk.2⟩)⟩, ⟨by repeat (first | (with_reducible first | exact HB.out | apply below_alloc | apply pw_below_drewN | apply below_drew1) | exact HB.out)⟩⟩
              case rest =>
                clear HC14
                try clear c1
                try clear p2
                try clear c3
                try clear c4
                try clear c7
                try clear c7b0
                try clear c7b1
                try clear c8
                try clear c11
                try clear c11b0
                try clear c11b1
                try clear c11b2
                try clear c12
                try clear c12b0
                try clear c12b1
                try clear c12b2
                try clear c18
                try clear p2
                obtain ⟨kq, x51_13, rfl, HA, HJ13, HO_6, HO_8, HO_10, HB⟩ := hcut
                cases kq with
                | zero => exact absurd HA.out (by simp [letterboxlaw10_AddrParts.j1])
                | succ kj13 =>
                  have H := HA.out
                  clear HA
                  simp only [letterboxlaw10_AddrParts.j1] at H
                  by_cases c19 : x51_13 = true
                  · subst c19
                    have H1 : (if (t126.length : Int) = 0 then (some true) else (some ((t130.length : Int) == 0))) = some r := by rw [if_pos rfl] at H; exact H
                    clear H
                    have H := H1
                    clear H1
                    by_cases c20 : (t126.length : Int) = 0
                    · rw [if_pos c20] at H
                      have c20b0 : ((t126.length : Int) == 0) = true := beq_iff_eq.mpr c20
                      have c20b1 : ((t126.length : Int) != 0) = false := bne_eq_false_iff_eq.mpr c20
                      clear c20
                      obtain rfl := Option.some.inj H
                      obtain ⟨Ao21, co21, eo21⟩ := Kd.R_slice HO_6.out
                      subst eo21
                      go_wp2
                      repeat (go_quiet (fail); try go_wp2)
                      go_ret
                      exact ⟨by first | rfl | (simp [errW_none, errW_some] <;> rfl) | (simp [*, errW_none, errW_some] <;> rfl), by repeat (first | (with_reducible first | exact HB.out | apply below_alloc | apply pw_below_drewN | apply below_drew1) | exact HB.out)⟩
                    · rw [if_neg c20] at H
                      have c20b0 : ((t126.length : Int) == 0) = false := beq_eq_false_iff_ne.mpr c20
                      have c20b1 : ((t126.length : Int) != 0) = true := bne_iff_ne.mpr c20
                      have c20b2 : ¬ (t126 = []) := fun h_ => c20 (by rw [h_]; rfl)
                      obtain rfl := Option.some.inj H
                      obtain ⟨Ao22, co22, eo22⟩ := Kd.R_slice HO_6.out
                      subst eo22
                      obtain ⟨Ao23, co23, eo23⟩ := Kd.R_slice HO_8.out
                      subst eo23
                      go_wp2
                      repeat (go_quiet (fail); try go_wp2)
                      go_ret
                      exact ⟨by first | rfl | (simp [errW_none, errW_some] <;> rfl) | (simp [*, errW_none, errW_some] <;> rfl), by repeat (first | (with_reducible first | exact HB.out | apply below_alloc | apply pw_below_drewN | apply below_drew1) | exact HB.out)⟩
                  · replace c19 := Bool.eq_false_iff.mpr c19
                    subst c19
                    have H1 : (letterboxlaw10_AddrParts.l0 kj13 a0 t126 t130 t134 t135 false 0) = some r := by rw [if_neg (show ¬ (false = true) by decide)] at H; exact H
                    clear H
                    have H := H1
                    clear H1
                    have H' := Aside0.mk H
                    clear H
                    go_wp2
                    repeat (go_quiet (fail); try go_wp2)
                    go_loopg [12, 13] kj13 (fun kq v12 v13 w' => ∃ (x12_3 : Bool) (x13_3 : Int), v12 = .bool x12_3 ∧ v13 = .int .i64 x13_3 ∧ Aside0 (letterboxlaw10_AddrParts.l0 kq a0 t126 t130 t134 t135 x12_3 x13_3 = some r) ∧ Aside0 (kq ≤ kj13) ∧ Aside0 (Kd.R k27 27 w' w.heap.size (fun k_ => some k_ ≠ (v132 : Value).ownBlock ∧ some k_ ≠ (v136 : Value).ownBlock) v128 t126) ∧ Aside0 (Kd.R k27 27 w' w.heap.size (fun k_ => some k_ ≠ (v128 : Value).ownBlock ∧ some k_ ≠ (v136 : Value).ownBlock) v132 t130) ∧ Aside0 (Kd.R k27 27 w' w.heap.size (fun k_ => some k_ ≠ (v128 : Value).ownBlock ∧ some k_ ≠ (v132 : Value).ownBlock) v136 t134) ∧ Aside0 (Below w.heap.size w w'))
                    case atStart => exact ⟨(false), (0), (by first | rfl | (simp; done) | (simp [*]; done)), (by first | rfl | (simp; done) | (simp [*]; done)), H', ⟨Nat.le_refl _⟩, ⟨by (with_reducible repeat (first | apply Kd.R_alloc | apply Kd.R_drewN | apply Kd.R_drew)); exact HO_6.out⟩, ⟨by (with_reducible repeat (first | apply Kd.R_alloc | apply Kd.R_drewN | apply Kd.R_drew)); exact HO_8.out⟩, ⟨by (with_reducible repeat (first | apply Kd.R_alloc | apply Kd.R_drewN | apply Kd.R_drew)); exact HO_10.out⟩, ⟨by repeat (first | (with_reducible first | exact HB.out | apply below_alloc | apply pw_below_drewN | apply below_drew1) | exact HB.out)⟩⟩
                    case round =>
                      clear H'
                      try clear c1
                      try clear c2
                      try clear p2
                      try clear c3
                      try clear c4
                      try clear c7
                      try clear c7b0
                      try clear c7b1
                      try clear c8
                      try clear c11
                      try clear c11b0
                      try clear c11b1
                      try clear c11b2
                      try clear c12
                      try clear c12b0
                      try clear c12b1
                      try clear c12b2
                      try clear c18
                      try clear c19
                      try clear c20
                      try clear c20b0
                      try clear c20b1
                      try clear c20b2
                      try clear p2
                      obtain ⟨x12_3, x13_3, rfl, rfl, HA, HK3, HO_6, HO_8, HO_10, HB⟩ := hrel
                      cases gk with
                      | zero => exact absurd HA.out (by simp [letterboxlaw10_AddrParts.l0])
                      | succ k3 =>
                        have H := HA.out
                        clear HA
                        simp only [letterboxlaw10_AddrParts.l0] at H
                        by_cases c24 : x13_3 < (a0.size : Int)
                        · rw [if_pos c24] at H
                          have c24b0 : decide (x13_3 < (a0.size : Int)) = true := decide_eq_true c24
                          clear c24
                          by_cases c25 : x12_3 = true
                          · subst c25
                            have H1 : (letterboxlaw10_AddrParts.l0 k3 a0 t126 t130 t134 t135 true (wrap64 (x13_3 + 1))) = some r := by rw [if_pos rfl] at H; exact H
                            clear H
                            have H := H1
                            clear H1
                            have H' := Aside0.mk H
                            clear H
                            go_wp2
                            repeat (go_quiet (fail); try go_wp2)
                            go_roundg k3
                            case measure => have := HJ4.out; have := HJ13.out; have := HK3.out; omega
                            case rel => exact ⟨(true), (wrap64 (x13_3 + 1)), (by first | rfl | (simp; done) | (simp [*]; done)), (by first | rfl | (simp; done) | (simp [*]; done)), H', ⟨by have := HJ4.out; have := HJ13.out; have := HK3.out; omega⟩, ⟨by (with_reducible repeat (first | apply Kd.R_alloc | apply Kd.R_drewN | apply Kd.R_drew)); exact HO_6.out⟩, ⟨by (with_reducible repeat (first | apply Kd.R_alloc | apply Kd.R_drewN | apply Kd.R_drew)); exact HO_8.out⟩, ⟨by (with_reducible repeat (first | apply Kd.R_alloc | apply Kd.R_drewN | apply Kd.R_drew)); exact HO_10.out⟩, ⟨by repeat (first | (with_reducible first | exact HB.out | apply below_alloc | apply pw_below_drewN | apply below_drew1) | exact HB.out)⟩⟩
                          · replace c25 := Bool.eq_false_iff.mpr c25
                            subst c25
                            have H1 : (if 0 ≤ x13_3 then (if (bt a0 x13_3) = 40 then (letterboxlaw10_AddrParts.l0 k3 a0 t126 t130 t134 t135 true (wrap64 (x13_3 + 1))) else (if (bt a0 x13_3) = 34 then (letterboxlaw10_AddrParts.l0 k3 a0 t126 t130 t134 t135 true (wrap64 (x13_3 + 1))) else (letterboxlaw10_AddrParts.l0 k3 a0 t126 t130 t134 t135 ((bt a0 x13_3) == 91) (wrap64 (x13_3 + 1))))) else (none)) = some r := by rw [if_neg (show ¬ (false = true) by decide)] at H; exact H
                            clear H
                            have H := H1
                            clear H1
                            by_cases c26 : 0 ≤ x13_3
                            · rw [if_pos c26] at H
                              have c26b0 : decide (0 ≤ x13_3) = true := decide_eq_true c26
                              clear c26
                              by_cases c28 : (bt a0 x13_3) = 40
                              · rw [if_pos c28] at H
                                have c28b0 : ((bt a0 x13_3) == 40) = true := beq_iff_eq.mpr c28
                                have c28b1 : ((bt a0 x13_3) != 40) = false := bne_eq_false_iff_eq.mpr c28
                                clear c28
                                have H' := Aside0.mk H
                                clear H
                                have p27 : 0 ≤ (x13_3 : Int) := of_decide_eq_true (by first | (with_reducible assumption) | assumption)
                                have q27 : x13_3 < (a0.size : Int) := of_decide_eq_true (by first | (with_reducible assumption) | assumption)
                                have hx27 := bt_at a0 x13_3
                                replace p27 := eq_true p27
                                replace q27 := eq_true q27
                                go_wp2
                                repeat (go_quiet (fail); try go_wp2)
                                go_roundg k3
                                case measure => have := HJ4.out; have := HJ13.out; have := HK3.out; omega
                                case rel => exact ⟨(true), (wrap64 (x13_3 + 1)), (by first | rfl | (simp; done) | (simp [*]; done)), (by first | rfl | (simp; done) | (simp [*]; done)), H', ⟨by have := HJ4.out; have := HJ13.out; have := HK3.out; omega⟩, ⟨by (with_reducible repeat (first | apply Kd.R_alloc | apply Kd.R_drewN | apply Kd.R_drew)); exact HO_6.out⟩, ⟨by (with_reducible repeat (first | apply Kd.R_alloc | apply Kd.R_drewN | apply Kd.R_drew)); exact HO_8.out⟩, ⟨by (with_reducible repeat (first | apply Kd.R_alloc | apply Kd.R_drewN | apply Kd.R_drew)); exact HO_10.out⟩, ⟨by repeat (first | (with_reducible first | exact HB.out | apply below_alloc | apply pw_below_drewN | apply below_drew1) | exact HB.out)⟩⟩
                              · rw [if_neg c28] at H
                                have c28b0 : ((bt a0 x13_3) == 40) = false := beq_eq_false_iff_ne.mpr c28
                                have c28b1 : ((bt a0 x13_3) != 40) = true := bne_iff_ne.mpr c28
                                by_cases c30 : (bt a0 x13_3) = 34
                                · rw [if_pos c30] at H
                                  have c30b0 : ((bt a0 x13_3) == 34) = true := beq_iff_eq.mpr c30
                                  have c30b1 : ((bt a0 x13_3) != 34) = false := bne_eq_false_iff_eq.mpr c30
                                  clear c30
                                  have H' := Aside0.mk H
                                  clear H
                                  have p27 : 0 ≤ (x13_3 : Int) := of_decide_eq_true (by first | (with_reducible assumption) | assumption)
                                  have q27 : x13_3 < (a0.size : Int) := of_decide_eq_true (by first | (with_reducible assumption) | assumption)
                                  have hx27 := bt_at a0 x13_3
                                  replace p27 := eq_true p27
                                  replace q27 := eq_true q27
                                  have p29 : 0 ≤ (x13_3 : Int) := of_decide_eq_true (by first | (with_reducible assumption) | assumption)
                                  have q29 : x13_3 < (a0.size : Int) := of_decide_eq_true (by first | (with_reducible assumption) | assumption)
                                  have hx29 := bt_at a0 x13_3
                                  replace p29 := eq_true p29
                                  replace q29 := eq_true q29
                                  go_wp2
                                  repeat (go_quiet (fail); try go_wp2)
                                  go_roundg k3
                                  case measure => have := HJ4.out; have := HJ13.out; have := HK3.out; omega
                                  case rel => exact ⟨(true), (wrap64 (x13_3 + 1)), (by first | rfl | (simp; done) | (simp [*]; done)), (by first | rfl | (simp; done) | (simp [*]; done)), H', ⟨by have := HJ4.out; have := HJ13.out; have := HK3.out; omega⟩, ⟨by (with_reducible repeat (first | apply Kd.R_alloc | apply Kd.R_drewN | apply Kd.R_drew)); exact HO_6.out⟩, ⟨by (with_reducible repeat (first | apply Kd.R_alloc | apply Kd.R_drewN | apply Kd.R_drew)); exact HO_8.out⟩, ⟨by (with_reducible repeat (first | apply Kd.R_alloc | apply Kd.R_drewN | apply Kd.R_drew)); exact HO_10.out⟩, ⟨by repeat (first | (with_reducible first | exact HB.out | apply below_alloc | apply pw_below_drewN | apply below_drew1) | exact HB.out)⟩⟩
                                · rw [if_neg c30] at H
                                  have c30b0 : ((bt a0 x13_3) == 34) = false := beq_eq_false_iff_ne.mpr c30
                                  have c30b1 : ((bt a0 x13_3) != 34) = true := bne_iff_ne.mpr c30
                                  have H' := Aside0.mk H
                                  clear H
                                  have p27 : 0 ≤ (x13_3 : Int) := of_decide_eq_true (by first | (with_reducible assumption) | assumption)
                                  have q27 : x13_3 < (a0.size : Int) := of_decide_eq_true (by first | (with_reducible assumption) | assumption)
                                  have hx27 := bt_at a0 x13_3
                                  replace p27 := eq_true p27
                                  replace q27 := eq_true q27
                                  have p29 : 0 ≤ (x13_3 : Int) := of_decide_eq_true (by first | (with_reducible assumption) | assumption)
                                  have q29 : x13_3 < (a0.size : Int) := of_decide_eq_true (by first | (with_reducible assumption) | assumption)
                                  have hx29 := bt_at a0 x13_3
                                  replace p29 := eq_true p29
                                  replace q29 := eq_true q29
                                  have p31 : 0 ≤ (x13_3 : Int) := of_decide_eq_true (by first | (with_reducible assumption) | assumption)
                                  have q31 : x13_3 < (a0.size : Int) := of_decide_eq_true (by first | (with_reducible assumption) | assumption)
                                  have hx31 := bt_at a0 x13_3
                                  replace p31 := eq_true p31
                                  replace q31 := eq_true q31
                                  go_wp2
                                  repeat (go_quiet (fail); try go_wp2)
                                  go_roundg k3
                                  case measure => have := HJ4.out; have := HJ13.out; have := HK3.out; omega
                                  case rel => exact ⟨(((bt a0 x13_3) == 91)), (wrap64 (x13_3 + 1)), (by first | rfl | (simp; done) | (simp [*]; done)), (by first | rfl | (simp; done) | (simp [*]; done)), H', ⟨by have := HJ4.out; have := HJ13.out; have := HK3.out; omega⟩, ⟨by (with_reducible repeat (first | apply Kd.R_alloc | apply Kd.R_drewN | apply Kd.R_drew)); exact HO_6.out⟩, ⟨by (with_reducible repeat (first | apply Kd.R_alloc | apply Kd.R_drewN | apply Kd.R_drew)); exact HO_8.out⟩, ⟨by (with_reducible repeat (first | apply Kd.R_alloc | apply Kd.R_drewN | apply Kd.R_drew)); exact HO_10.out⟩, ⟨by repeat (first | (with_reducible first | exact HB.out | apply below_alloc | apply pw_below_drewN | apply below_drew1) | exact HB.out)⟩⟩
                            · rw [if_neg c26] at H
                              exact absurd H (by simp)
                        · rw [if_neg c24] at H
                          have c24b0 : decide (x13_3 < (a0.size : Int)) = false := decide_eq_false c24
                          clear c24
                          by_cases c32 : x12_3 = true
                          · subst c32
                            have H1 : (some true) = some r := by rw [if_pos rfl] at H; exact H
                            clear H
                            have H := H1
                            clear H1
                            obtain rfl := Option.some.inj H
                            go_wp2
                            repeat (go_quiet (fail); try go_wp2)
                            go_ret
                            exact ⟨by first | rfl | (simp [errW_none, errW_some] <;> rfl) | (simp [*, errW_none, errW_some] <;> rfl), by repeat (first | (with_reducible first | exact HB.out | apply below_alloc | apply pw_below_drewN | apply below_drew1) | exact HB.out)⟩
                          · replace c32 := Bool.eq_false_iff.mpr c32
                            subst c32
                            have H1 : (if t135 = true then (letterboxlaw10_AddrParts.j3 k3 a0 t126 t130 t134 ((t134.length : Int) != (wrap64 ((t126.length : Int) + (t130.length : Int))))) else (letterboxlaw10_AddrParts.j3 k3 a0 t126 t130 t134 true)) = some r := by rw [if_neg (show ¬ (false = true) by decide)] at H; exact H
                            clear H
                            have H := H1
                            clear H1
                            have HC33 := Aside0.mk H
                            clear H
                            go_upto_region 18 with (fail)
                            repeat (go_quiet (fail); go_upto_region 18 with (fail))
                            go_cut [97] (fun v97 wc => ∃ (kq : Nat) (x97_32 : Bool), v97 = .bool x97_32 ∧ Aside0 (letterboxlaw10_AddrParts.j3 kq a0 t126 t130 t134 x97_32 = some r) ∧ Aside0 (kq ≤ k3) ∧ Aside0 (Kd.R k27 27 wc w.heap.size (fun k_ => some k_ ≠ (v132 : Value).ownBlock ∧ some k_ ≠ (v136 : Value).ownBlock) v128 t126) ∧ Aside0 (Kd.R k27 27 wc w.heap.size (fun k_ => some k_ ≠ (v128 : Value).ownBlock ∧ some k_ ≠ (v136 : Value).ownBlock) v132 t130) ∧ Aside0 (Kd.R k27 27 wc w.heap.size (fun k_ => some k_ ≠ (v128 : Value).ownBlock ∧ some k_ ≠ (v132 : Value).ownBlock) v136 t134) ∧ Aside0 (Below w.heap.size w wc))
                            case first =>
                              have H := HC33.out
                              clear HC33
                              by_cases c34 : t135 = true
                              · subst c34
                                have H1 : (letterboxlaw10_AddrParts.j3 k3 a0 t126 t130 t134 ((t134.length : Int) != (wrap64 ((t126.length : Int) + (t130.length : Int))))) = some r := by rw [if_pos rfl] at H; exact H
                                clear H
                                have H := H1
                                clear H1
                                have H' := Aside0.mk H
                                clear H
                                obtain ⟨Ao35, co35, eo35⟩ := Kd.R_slice HO_10.out
                                subst eo35
                                obtain ⟨Ao36, co36, eo36⟩ := Kd.R_slice HO_6.out
                                subst eo36
                                obtain ⟨Ao37, co37, eo37⟩ := Kd.R_slice HO_8.out
                                subst eo37
                                go_wp2
                                repeat (go_quiet (fail); try go_wp2)
                                go_meet
                                case rel => exact ⟨_, (((t134.length : Int) != (wrap64 ((t126.length : Int) + (t130.length : Int))))), (by first | rfl | (simp; done) | (simp [*]; done)), H', ⟨by have := HJ4.out; have := HJ13.out; have := HK3.out; first | omega | exact Nat.le_refl _⟩, ⟨by (with_reducible repeat (first | apply Kd.R_alloc | apply Kd.R_drewN | apply Kd.R_drew)); exact HO_6.out⟩, ⟨by (with_reducible repeat (first | apply Kd.R_alloc | apply Kd.R_drewN | apply Kd.R_drew)); exact HO_8.out⟩, ⟨by (with_reducible repeat (first | apply Kd.R_alloc | apply Kd.R_drewN | apply Kd.R_drew)); exact HO_10.out⟩, ⟨by repeat (first | (with_reducible first | exact HB.out | apply below_alloc | apply pw_below_drewN | apply below_drew1) | exact HB.out)⟩⟩
                              · replace c34 := Bool.eq_false_iff.mpr c34
                                subst c34
                                have H1 : (letterboxlaw10_AddrParts.j3 k3 a0 t126 t130 t134 true) = some r := by rw [if_neg (show ¬ (false = true) by decide)] at H; exact H
                                clear H
                                have H := H1
                                clear H1
                                have H' := Aside0.mk H
                                clear H
                                go_wp2
                                repeat (go_quiet (fail); try go_wp2)
                                go_meet
                                case rel => exact ⟨_, (true), (by first | rfl | (simp; done) | (simp [*]; done)), H', ⟨by have := HJ4.out; have := HJ13.out; have := HK3.out; first | omega | exact Nat.le_refl _⟩, ⟨by (with_reducible repeat (first | apply Kd.R_alloc | apply Kd.R_drewN | apply Kd.R_drew)); exact HO_6.out⟩, ⟨by (with_reducible repeat (first | apply Kd.R_alloc | apply Kd.R_drewN | apply Kd.R_drew)); exact HO_8.out⟩, ⟨by (with_reducible repeat (first | apply Kd.R_alloc | apply Kd.R_drewN | apply Kd.R_drew)); exact HO_10.out⟩, ⟨by repeat (first | (with_reducible first | exact HB.out | apply below_alloc | apply pw_below_drewN | apply below_drew1) | exact HB.out)⟩⟩
                            case rest =>
                              clear HC33
                              try clear c1
                              try clear c2
                              try clear p2
                              try clear q2
                              try clear hx2
                              try clear c3
                              try clear p3
                              try clear q3
                              try clear hx3
                              try clear c4
                              try clear p6
                              try clear c7
                              try clear c7b0
                              try clear c7b1
                              try clear c8
                              try clear c11
                              try clear c11b0
                              try clear c11b1
                              try clear c11b2
                              try clear c12
                              try clear c12b0
                              try clear c12b1
                              try clear c12b2
                              try clear c18
                              try clear c19
                              try clear c20
                              try clear c20b0
                              try clear c20b1
                              try clear c20b2
                              try clear c24
                              try clear c24b0
                              try clear c25
                              try clear c26
                              try clear c26b0
                              try clear p27
                              try clear q27
                              try clear hx27
                              try clear c28
                              try clear c28b0
                              try clear c28b1
                              try clear p29
                              try clear q29
                              try clear hx29
                              try clear c30
                              try clear c30b0
                              try clear c30b1
                              try clear p31
                              try clear q31
                              try clear hx31
                              try clear c32
                              try clear c34
                              try clear p2
                              try clear p27
                              try clear p29
                              try clear p31
                              try clear q27
                              try clear q29
                              try clear q31
                              obtain ⟨kq, x97_32, rfl, HA, HJ32, HO_6, HO_8, HO_10, HB⟩ := hcut
                              cases kq with
                              | zero => exact absurd HA.out (by simp [letterboxlaw10_AddrParts.j3])
                              | succ kj32 =>
                                have H := HA.out
                                clear HA
                                simp only [letterboxlaw10_AddrParts.j3] at H
                                by_cases c38 : x97_32 = true
                                · subst c38
                                  have H1 : (some false) = some r := by rw [if_pos rfl] at H; exact H
                                  clear H
                                  have H := H1
                                  clear H1
                                  obtain rfl := Option.some.inj H
                                  go_wp2
                                  repeat (go_quiet (fail); try go_wp2)
                                  go_ret
                                  exact ⟨by first | rfl | (simp [errW_none, errW_some] <;> rfl) | (simp [*, errW_none, errW_some] <;> rfl), by repeat (first | (with_reducible first | exact HB.out | apply below_alloc | apply pw_below_drewN | apply below_drew1) | exact HB.out)⟩
                                · replace c38 := Bool.eq_false_iff.mpr c38
                                  subst c38
                                  have H1 : (letterboxlaw10_AddrParts.l1 kj32 a0 t126 t130 t134 0) = some r := by rw [if_neg (show ¬ (false = true) by decide)] at H; exact H
                                  clear H
                                  have H := H1
                                  clear H1
                                  have H' := Aside0.mk H
                                  clear H
                                  go_wp2
                                  repeat (go_quiet (fail); try go_wp2)
                                  go_loopg [14] kj32 (fun kq v14 w' => ∃ (x14_5 : Int), v14 = .int .i64 x14_5 ∧ Aside0 (letterboxlaw10_AddrParts.l1 kq a0 t126 t130 t134 x14_5 = some r) ∧ Aside0 (kq ≤ kj32) ∧ Aside0 (Kd.R k27 27 w' w.heap.size (fun k_ => some k_ ≠ (v132 : Value).ownBlock ∧ some k_ ≠ (v136 : Value).ownBlock) v128 t126) ∧ Aside0 (Kd.R k27 27 w' w.heap.size (fun k_ => some k_ ≠ (v128 : Value).ownBlock ∧ some k_ ≠ (v136 : Value).ownBlock) v132 t130) ∧ Aside0 (Kd.R k27 27 w' w.heap.size (fun k_ => some k_ ≠ (v128 : Value).ownBlock ∧ some k_ ≠ (v132 : Value).ownBlock) v136 t134) ∧ Aside0 (Below w.heap.size w w'))
                                  case atStart => exact ⟨(0), (by first | rfl | (simp; done) | (simp [*]; done)), H', ⟨Nat.le_refl _⟩, ⟨by (with_reducible repeat (first | apply Kd.R_alloc | apply Kd.R_drewN | apply Kd.R_drew)); exact HO_6.out⟩, ⟨by (with_reducible repeat (first | apply Kd.R_alloc | apply Kd.R_drewN | apply Kd.R_drew)); exact HO_8.out⟩, ⟨by (with_reducible repeat (first | apply Kd.R_alloc | apply Kd.R_drewN | apply Kd.R_drew)); exact HO_10.out⟩, ⟨by repeat (first | (with_reducible first | exact HB.out | apply below_alloc | apply pw_below_drewN | apply below_drew1) | exact HB.out)⟩⟩
                                  case round =>
                                    clear H'
                                    try clear c1
                                    try clear c2
                                    try clear p2
                                    try clear q2
                                    try clear hx2
                                    try clear c3
                                    try clear p3
                                    try clear q3
                                    try clear hx3
                                    try clear c4
                                    try clear p6
                                    try clear c7
                                    try clear c7b0
                                    try clear c7b1
                                    try clear c8
                                    try clear c11
                                    try clear c11b0
                                    try clear c11b1
                                    try clear c11b2
                                    try clear c12
                                    try clear c12b0
                                    try clear c12b1
                                    try clear c12b2
                                    try clear c18
                                    try clear c19
                                    try clear c20
                                    try clear c20b0
                                    try clear c20b1
                                    try clear c20b2
                                    try clear c24
                                    try clear c24b0
                                    try clear c25
                                    try clear c26
                                    try clear c26b0
                                    try clear p27
                                    try clear q27
                                    try clear hx27
                                    try clear c28
                                    try clear c28b0
                                    try clear c28b1
                                    try clear p29
                                    try clear q29
                                    try clear hx29
                                    try clear c30
                                    try clear c30b0
                                    try clear c30b1
                                    try clear p31
                                    try clear q31
                                    try clear hx31
                                    try clear c32
                                    try clear c34
                                    try clear c38
                                    try clear p2
                                    try clear p27
                                    try clear p29
                                    try clear p3
                                    try clear p31
                                    try clear p6
                                    try clear q2
                                    try clear q27
                                    try clear q29
                                    try clear q3
                                    try clear q31
                                    obtain ⟨x14_5, rfl, HA, HK5, HO_6, HO_8, HO_10, HB⟩ := hrel
                                    cases gk with
                                    | zero => exact absurd HA.out (by simp [letterboxlaw10_AddrParts.l1])
                                    | succ k5 =>
                                      have H := HA.out
                                      clear HA
                                      simp only [letterboxlaw10_AddrParts.l1] at H
                                      by_cases c39 : x14_5 < (t134.length : Int)
                                      · rw [if_pos c39] at H
                                        have c39b0 : decide (x14_5 < (t134.length : Int)) = true := decide_eq_true c39
                                        clear c39
                                        by_cases c40 : x14_5 < (t126.length : Int)
                                        · rw [if_pos c40] at H
                                          have c40b0 : decide (x14_5 < (t126.length : Int)) = true := decide_eq_true c40
                                          clear c40
                                          by_cases c41 : 0 ≤ x14_5
                                          · rw [if_pos c41] at H
                                            have c41b0 : decide (0 ≤ x14_5) = true := decide_eq_true c41
                                            clear c41
                                            by_cases c42 : (!(((rd_T27 t134 x14_5).f0) == ((rd_T27 t126 x14_5).f0)) || (!((((rd_T27 t134 x14_5).f1).toList) == (((rd_T27 t126 x14_5).f1).toList)) || (!((((rd_T27 t134 x14_5).f2).toList) == (((rd_T27 t126 x14_5).f2).toList)) || (!((((rd_T27 t134 x14_5).f3).toList) == (((rd_T27 t126 x14_5).f3).toList)))))) = true
                                            · rw [if_pos c42] at H
                                              have c42b0 : (!(((rd_T27 t134 x14_5).f0) == ((rd_T27 t126 x14_5).f0)) || (!((((rd_T27 t134 x14_5).f1).toList) == (((rd_T27 t126 x14_5).f1).toList)) || (!((((rd_T27 t134 x14_5).f2).toList) == (((rd_T27 t126 x14_5).f2).toList)) || (!((((rd_T27 t134 x14_5).f3).toList) == (((rd_T27 t126 x14_5).f3).toList)))))) = true := c42
                                              clear c42
                                              obtain rfl := Option.some.inj H
                                              obtain ⟨Ao43, co43, eo43⟩ := Kd.R_slice HO_10.out
                                              subst eo43
                                              obtain ⟨Ao44, co44, eo44⟩ := Kd.R_slice HO_6.out
                                              subst eo44
                                              have p138 : 0 ≤ (x14_5 : Int) := of_decide_eq_true (by first | (with_reducible assumption) | assumption)
                                              have q138 : x14_5 < (t134.length : Int) := of_decide_eq_true (by first | (with_reducible assumption) | assumption)
                                              obtain ⟨ad138, e138, hx138_0, hx138_1, hx138_2, hx138_3⟩ := at_T27 (Kd.R_reads' HO_10.out).2.2 x14_5 p138 q138
                                              cases e138
                                              replace p138 := eq_true p138
                                              replace q138 := eq_true q138
                                              have p139 : 0 ≤ (x14_5 : Int) := of_decide_eq_true (by first | (with_reducible assumption) | assumption)
                                              have q139 : x14_5 < (t126.length : Int) := of_decide_eq_true (by first | (with_reducible assumption) | assumption)
                                              obtain ⟨ad139, e139, hx139_0, hx139_1, hx139_2, hx139_3⟩ := at_T27 (Kd.R_reads' HO_6.out).2.2 x14_5 p139 q139
                                              cases e139
                                              replace p139 := eq_true p139
                                              replace q139 := eq_true q139
                                              go_wp2
                                              repeat (go_quiet (fail); try go_wp2)
                                              go_ret
                                              exact ⟨by first | rfl | (simp [errW_none, errW_some] <;> rfl) | (simp [*, errW_none, errW_some] <;> rfl), by repeat (first | (with_reducible first | exact HB.out | apply below_alloc | apply pw_below_drewN | apply below_drew1) | exact HB.out)⟩
                                            · rw [if_neg c42] at H
                                              have c42b0 : (!(((rd_T27 t134 x14_5).f0) == ((rd_T27 t126 x14_5).f0)) || (!((((rd_T27 t134 x14_5).f1).toList) == (((rd_T27 t126 x14_5).f1).toList)) || (!((((rd_T27 t134 x14_5).f2).toList) == (((rd_T27 t126 x14_5).f2).toList)) || (!((((rd_T27 t134 x14_5).f3).toList) == (((rd_T27 t126 x14_5).f3).toList)))))) = false := by simpa using c42
                                              clear c42
                                              by_cases c45 : x14_5 ≥ (t126.length : Int)
                                              · rw [if_pos c45] at H
                                                have c45b0 : decide ((t126.length : Int) ≤ x14_5) = true := decide_eq_true c45
                                                clear c45
                                                obtain ⟨ji46, hji46⟩ : ∃ j_ : Int, (wrap64 (x14_5 - (t126.length : Int))) = j_ := ⟨_, rfl⟩
                                                replace H : (if 0 ≤ (ji46) then (if (ji46) < (t130.length : Int) then (if (!(((rd_T27 t134 x14_5).f0) == ((rd_T27 t130 (ji46)).f0)) || (!((((rd_T27 t134 x14_5).f1).toList) == (((rd_T27 t130 (ji46)).f1).toList)) || (!((((rd_T27 t134 x14_5).f2).toList) == (((rd_T27 t130 (ji46)).f2).toList)) || (!((((rd_T27 t134 x14_5).f3).toList) == (((rd_T27 t130 (ji46)).f3).toList)))))) = true then (some false) else (letterboxlaw10_AddrParts.l1 k5 a0 t126 t130 t134 (wrap64 (x14_5 + 1)))) else (none)) else (none)) = some r := by first | (rw [hji46] at H; exact H) | (simp only [hji46] at H ⊢; exact H)
                                                have hji46w : (IntKind.i64.wrap (x14_5 - (t126.length : Int))) = ji46 := (i64_w _).trans hji46
                                                by_cases c47 : 0 ≤ (ji46)
                                                · rw [if_pos c47] at H
                                                  have c47b0 : decide (0 ≤ (ji46)) = true := decide_eq_true c47
                                                  clear c47
                                                  by_cases c48 : (ji46) < (t130.length : Int)
                                                  · rw [if_pos c48] at H
                                                    have c48b0 : decide ((ji46) < (t130.length : Int)) = true := decide_eq_true c48
                                                    clear c48
                                                    by_cases c49 : (!(((rd_T27 t134 x14_5).f0) == ((rd_T27 t130 (ji46)).f0)) || (!((((rd_T27 t134 x14_5).f1).toList) == (((rd_T27 t130 (ji46)).f1).toList)) || (!((((rd_T27 t134 x14_5).f2).toList) == (((rd_T27 t130 (ji46)).f2).toList)) || (!((((rd_T27 t134 x14_5).f3).toList) == (((rd_T27 t130 (ji46)).f3).toList)))))) = true
                                                    · rw [if_pos c49] at H
                                                      have c49b0 : (!(((rd_T27 t134 x14_5).f0) == ((rd_T27 t130 (ji46)).f0)) || (!((((rd_T27 t134 x14_5).f1).toList) == (((rd_T27 t130 (ji46)).f1).toList)) || (!((((rd_T27 t134 x14_5).f2).toList) == (((rd_T27 t130 (ji46)).f2).toList)) || (!((((rd_T27 t134 x14_5).f3).toList) == (((rd_T27 t130 (ji46)).f3).toList)))))) = true := c49
                                                      clear c49
                                                      obtain rfl := Option.some.inj H
                                                      obtain ⟨Ao50, co50, eo50⟩ := Kd.R_slice HO_10.out
                                                      subst eo50
                                                      obtain ⟨Ao51, co51, eo51⟩ := Kd.R_slice HO_6.out
                                                      subst eo51
                                                      have p138 : 0 ≤ (x14_5 : Int) := of_decide_eq_true (by first | (with_reducible assumption) | assumption)
                                                      have q138 : x14_5 < (t134.length : Int) := of_decide_eq_true (by first | (with_reducible assumption) | assumption)
                                                      obtain ⟨ad138, e138, hx138_0, hx138_1, hx138_2, hx138_3⟩ := at_T27 (Kd.R_reads' HO_10.out).2.2 x14_5 p138 q138
                                                      cases e138
                                                      replace p138 := eq_true p138
                                                      replace q138 := eq_true q138
                                                      have p139 : 0 ≤ (x14_5 : Int) := of_decide_eq_true (by first | (with_reducible assumption) | assumption)
                                                      have q139 : x14_5 < (t126.length : Int) := of_decide_eq_true (by first | (with_reducible assumption) | assumption)
                                                      obtain ⟨ad139, e139, hx139_0, hx139_1, hx139_2, hx139_3⟩ := at_T27 (Kd.R_reads' HO_6.out).2.2 x14_5 p139 q139
                                                      cases e139
                                                      replace p139 := eq_true p139
                                                      replace q139 := eq_true q139
                                                      have p140 : 0 ≤ (x14_5 : Int) := of_decide_eq_true (by first | (with_reducible assumption) | assumption)
                                                      have q140 : x14_5 < (t134.length : Int) := of_decide_eq_true (by first | (with_reducible assumption) | assumption)
                                                      obtain ⟨ad140, e140, hx140_0, hx140_1, hx140_2, hx140_3⟩ := at_T27 (Kd.R_reads' HO_10.out).2.2 x14_5 p140 q140
                                                      obtain rfl : ad138 = ad140 := (by injection e140)
                                                      replace p140 := eq_true p140
                                                      replace q140 := eq_true q140
                                                      obtain ⟨Ao52, co52, eo52⟩ := Kd.R_slice HO_8.out
                                                      subst eo52
                                                      have p141 : 0 ≤ ((ji46) : Int) := of_decide_eq_true (by first | (with_reducible assumption) | assumption)
                                                      have q141 : (ji46) < (t130.length : Int) := of_decide_eq_true (by first | (with_reducible assumption) | assumption)
                                                      obtain ⟨ad141, e141, hx141_0, hx141_1, hx141_2, hx141_3⟩ := at_T27 (Kd.R_reads' HO_8.out).2.2 (ji46) p141 q141
                                                      cases e141
                                                      replace p141 := eq_true p141
                                                      replace q141 := eq_true q141
                                                      go_wp2
                                                      repeat (go_quiet (fail); try go_wp2)
                                                      go_ret
                                                      exact ⟨by first | rfl | (simp [errW_none, errW_some] <;> rfl) | (simp only [← hji46]; first | rfl | (simp [errW_none, errW_some] <;> rfl)) | (simp [*, errW_none, errW_some] <;> rfl), by repeat (first | (with_reducible first | exact HB.out | apply below_alloc | apply pw_below_drewN | apply below_drew1) | exact HB.out)⟩
                                                    · rw [if_neg c49] at H
                                                      have c49b0 : (!(((rd_T27 t134 x14_5).f0) == ((rd_T27 t130 (ji46)).f0)) || (!((((rd_T27 t134 x14_5).f1).toList) == (((rd_T27 t130 (ji46)).f1).toList)) || (!((((rd_T27 t134 x14_5).f2).toList) == (((rd_T27 t130 (ji46)).f2).toList)) || (!((((rd_T27 t134 x14_5).f3).toList) == (((rd_T27 t130 (ji46)).f3).toList)))))) = false := by simpa using c49
                                                      clear c49
                                                      have H' := Aside0.mk H
                                                      clear H
                                                      obtain ⟨Ao53, co53, eo53⟩ := Kd.R_slice HO_10.out
                                                      subst eo53
                                                      obtain ⟨Ao54, co54, eo54⟩ := Kd.R_slice HO_6.out
                                                      subst eo54
                                                      have p138 : 0 ≤ (x14_5 : Int) := of_decide_eq_true (by first | (with_reducible assumption) | assumption)
                                                      have q138 : x14_5 < (t134.length : Int) := of_decide_eq_true (by first | (with_reducible assumption) | assumption)
                                                      obtain ⟨ad138, e138, hx138_0, hx138_1, hx138_2, hx138_3⟩ := at_T27 (Kd.R_reads' HO_10.out).2.2 x14_5 p138 q138
                                                      cases e138
                                                      replace p138 := eq_true p138
                                                      replace q138 := eq_true q138
                                                      have p139 : 0 ≤ (x14_5 : Int) := of_decide_eq_true (by first | (with_reducible assumption) | assumption)
                                                      have q139 : x14_5 < (t126.length : Int) := of_decide_eq_true (by first | (with_reducible assumption) | assumption)
                                                      obtain ⟨ad139, e139, hx139_0, hx139_1, hx139_2, hx139_3⟩ := at_T27 (Kd.R_reads' HO_6.out).2.2 x14_5 p139 q139
                                                      cases e139
                                                      replace p139 := eq_true p139
                                                      replace q139 := eq_true q139
                                                      have p140 : 0 ≤ (x14_5 : Int) := of_decide_eq_true (by first | (with_reducible assumption) | assumption)
                                                      have q140 : x14_5 < (t134.length : Int) := of_decide_eq_true (by first | (with_reducible assumption) | assumption)
                                                      obtain ⟨ad140, e140, hx140_0, hx140_1, hx140_2, hx140_3⟩ := at_T27 (Kd.R_reads' HO_10.out).2.2 x14_5 p140 q140
                                                      obtain rfl : ad138 = ad140 := (by injection e140)
                                                      replace p140 := eq_true p140
                                                      replace q140 := eq_true q140
                                                      obtain ⟨Ao55, co55, eo55⟩ := Kd.R_slice HO_8.out
                                                      subst eo55
                                                      have p141 : 0 ≤ ((ji46) : Int) := of_decide_eq_true (by first | (with_reducible assumption) | assumption)
                                                      have q141 : (ji46) < (t130.length : Int) := of_decide_eq_true (by first | (with_reducible assumption) | assumption)
                                                      obtain ⟨ad141, e141, hx141_0, hx141_1, hx141_2, hx141_3⟩ := at_T27 (Kd.R_reads' HO_8.out).2.2 (ji46) p141 q141
                                                      cases e141
                                                      replace p141 := eq_true p141
                                                      replace q141 := eq_true q141
                                                      go_wp2
                                                      repeat (go_quiet (fail); try go_wp2)
                                                      go_roundg k5
                                                      case measure => have := HJ4.out; have := HJ13.out; have := HK3.out; have := HJ32.out; have := HK5.out; omega
                                                      case rel => exact ⟨(wrap64 (x14_5 + 1)), (by first | rfl | (simp; done) | (simp [*]; done)), H', ⟨by have := HJ4.out; have := HJ13.out; have := HK3.out; have := HJ32.out; have := HK5.out; omega⟩, ⟨by (with_reducible repeat (first | apply Kd.R_alloc | apply Kd.R_drewN | apply Kd.R_drew)); exact HO_6.out⟩, ⟨by (with_reducible repeat (first | apply Kd.R_alloc | apply Kd.R_drewN | apply Kd.R_drew)); exact HO_8.out⟩, ⟨by (with_reducible repeat (first | apply Kd.R_alloc | apply Kd.R_drewN | apply Kd.R_drew)); exact HO_10.out⟩, ⟨by repeat (first | (with_reducible first | exact HB.out | apply below_alloc | apply pw_below_drewN | apply below_drew1) | exact HB.out)⟩⟩
                                                  · rw [if_neg c48] at H
                                                    exact absurd H (by simp)
                                                · rw [if_neg c47] at H
                                                  exact absurd H (by simp)
                                              · rw [if_neg c45] at H
                                                have c45b0 : decide ((t126.length : Int) ≤ x14_5) = false := decide_eq_false c45
                                                clear c45
                                                have H' := Aside0.mk H
                                                clear H
                                                obtain ⟨Ao56, co56, eo56⟩ := Kd.R_slice HO_10.out
                                                subst eo56
                                                obtain ⟨Ao57, co57, eo57⟩ := Kd.R_slice HO_6.out
                                                subst eo57
                                                have p138 : 0 ≤ (x14_5 : Int) := of_decide_eq_true (by first | (with_reducible assumption) | assumption)
                                                have q138 : x14_5 < (t134.length : Int) := of_decide_eq_true (by first | (with_reducible assumption) | assumption)
                                                obtain ⟨ad138, e138, hx138_0, hx138_1, hx138_2, hx138_3⟩ := at_T27 (Kd.R_reads' HO_10.out).2.2 x14_5 p138 q138
                                                cases e138
                                                replace p138 := eq_true p138
                                                replace q138 := eq_true q138
                                                have p139 : 0 ≤ (x14_5 : Int) := of_decide_eq_true (by first | (with_reducible assumption) | assumption)
                                                have q139 : x14_5 < (t126.length : Int) := of_decide_eq_true (by first | (with_reducible assumption) | assumption)
                                                obtain ⟨ad139, e139, hx139_0, hx139_1, hx139_2, hx139_3⟩ := at_T27 (Kd.R_reads' HO_6.out).2.2 x14_5 p139 q139
                                                cases e139
                                                replace p139 := eq_true p139
                                                replace q139 := eq_true q139
                                                go_wp2
                                                repeat (go_quiet (fail); try go_wp2)
                                                go_roundg k5
                                                case measure => have := HJ4.out; have := HJ13.out; have := HK3.out; have := HJ32.out; have := HK5.out; omega
                                                case rel => exact ⟨(wrap64 (x14_5 + 1)), (by first | rfl | (simp; done) | (simp [*]; done)), H', ⟨by have := HJ4.out; have := HJ13.out; have := HK3.out; have := HJ32.out; have := HK5.out; omega⟩, ⟨by (with_reducible repeat (first | apply Kd.R_alloc | apply Kd.R_drewN | apply Kd.R_drew)); exact HO_6.out⟩, ⟨by (with_reducible repeat (first | apply Kd.R_alloc | apply Kd.R_drewN | apply Kd.R_drew)); exact HO_8.out⟩, ⟨by (with_reducible repeat (first | apply Kd.R_alloc | apply Kd.R_drewN | apply Kd.R_drew)); exact HO_10.out⟩, ⟨by repeat (first | (with_reducible first | exact HB.out | apply below_alloc | apply pw_below_drewN | apply below_drew1) | exact HB.out)⟩⟩
                                          · rw [if_neg c41] at H
                                            exact absurd H (by simp)
                                        · rw [if_neg c40] at H
                                          have c40b0 : decide (x14_5 < (t126.length : Int)) = false := decide_eq_false c40
                                          clear c40
                                          by_cases c58 : x14_5 ≥ (t126.length : Int)
                                          · rw [if_pos c58] at H
                                            have c58b0 : decide ((t126.length : Int) ≤ x14_5) = true := decide_eq_true c58
                                            clear c58
                                            by_cases c59 : 0 ≤ x14_5
                                            · rw [if_pos c59] at H
                                              have c59b0 : decide (0 ≤ x14_5) = true := decide_eq_true c59
                                              clear c59
                                              obtain ⟨ji60, hji60⟩ : ∃ j_ : Int, (wrap64 (x14_5 - (t126.length : Int))) = j_ := ⟨_, rfl⟩
                                              replace H : (if 0 ≤ (ji60) then (if (ji60) < (t130.length : Int) then (if (!(((rd_T27 t134 x14_5).f0) == ((rd_T27 t130 (ji60)).f0)) || (!((((rd_T27 t134 x14_5).f1).toList) == (((rd_T27 t130 (ji60)).f1).toList)) || (!((((rd_T27 t134 x14_5).f2).toList) == (((rd_T27 t130 (ji60)).f2).toList)) || (!((((rd_T27 t134 x14_5).f3).toList) == (((rd_T27 t130 (ji60)).f3).toList)))))) = true then (some false) else (letterboxlaw10_AddrParts.l1 k5 a0 t126 t130 t134 (wrap64 (x14_5 + 1)))) else (none)) else (none)) = some r := by first | (rw [hji60] at H; exact H) | (simp only [hji60] at H ⊢; exact H)
                                              have hji60w : (IntKind.i64.wrap (x14_5 - (t126.length : Int))) = ji60 := (i64_w _).trans hji60
                                              by_cases c61 : 0 ≤ (ji60)
                                              · rw [if_pos c61] at H
                                                have c61b0 : decide (0 ≤ (ji60)) = true := decide_eq_true c61
                                                clear c61
                                                by_cases c62 : (ji60) < (t130.length : Int)
                                                · rw [if_pos c62] at H
                                                  have c62b0 : decide ((ji60) < (t130.length : Int)) = true := decide_eq_true c62
                                                  clear c62
                                                  by_cases c63 : (!(((rd_T27 t134 x14_5).f0) == ((rd_T27 t130 (ji60)).f0)) || (!((((rd_T27 t134 x14_5).f1).toList) == (((rd_T27 t130 (ji60)).f1).toList)) || (!((((rd_T27 t134 x14_5).f2).toList) == (((rd_T27 t130 (ji60)).f2).toList)) || (!((((rd_T27 t134 x14_5).f3).toList) == (((rd_T27 t130 (ji60)).f3).toList)))))) = true
                                                  · rw [if_pos c63] at H
                                                    have c63b0 : (!(((rd_T27 t134 x14_5).f0) == ((rd_T27 t130 (ji60)).f0)) || (!((((rd_T27 t134 x14_5).f1).toList) == (((rd_T27 t130 (ji60)).f1).toList)) || (!((((rd_T27 t134 x14_5).f2).toList) == (((rd_T27 t130 (ji60)).f2).toList)) || (!((((rd_T27 t134 x14_5).f3).toList) == (((rd_T27 t130 (ji60)).f3).toList)))))) = true := c63
                                                    clear c63
                                                    obtain rfl := Option.some.inj H
                                                    obtain ⟨Ao64, co64, eo64⟩ := Kd.R_slice HO_10.out
                                                    subst eo64
                                                    obtain ⟨Ao65, co65, eo65⟩ := Kd.R_slice HO_6.out
                                                    subst eo65
                                                    have p142 : 0 ≤ (x14_5 : Int) := of_decide_eq_true (by first | (with_reducible assumption) | assumption)
                                                    have q142 : x14_5 < (t134.length : Int) := of_decide_eq_true (by first | (with_reducible assumption) | assumption)
                                                    obtain ⟨ad142, e142, hx142_0, hx142_1, hx142_2, hx142_3⟩ := at_T27 (Kd.R_reads' HO_10.out).2.2 x14_5 p142 q142
                                                    cases e142
                                                    replace p142 := eq_true p142
                                                    replace q142 := eq_true q142
                                                    obtain ⟨Ao66, co66, eo66⟩ := Kd.R_slice HO_8.out
                                                    subst eo66
                                                    have p143 : 0 ≤ ((ji60) : Int) := of_decide_eq_true (by first | (with_reducible assumption) | assumption)
                                                    have q143 : (ji60) < (t130.length : Int) := of_decide_eq_true (by first | (with_reducible assumption) | assumption)
                                                    obtain ⟨ad143, e143, hx143_0, hx143_1, hx143_2, hx143_3⟩ := at_T27 (Kd.R_reads' HO_8.out).2.2 (ji60) p143 q143
                                                    cases e143
                                                    replace p143 := eq_true p143
                                                    replace q143 := eq_true q143
                                                    go_wp2
                                                    repeat (go_quiet (fail); try go_wp2)
                                                    go_ret
                                                    exact ⟨by first | rfl | (simp [errW_none, errW_some] <;> rfl) | (simp only [← hji60]; first | rfl | (simp [errW_none, errW_some] <;> rfl)) | (simp [*, errW_none, errW_some] <;> rfl), by repeat (first | (with_reducible first | exact HB.out | apply below_alloc | apply pw_below_drewN | apply below_drew1) | exact HB.out)⟩
                                                  · rw [if_neg c63] at H
                                                    have c63b0 : (!(((rd_T27 t134 x14_5).f0) == ((rd_T27 t130 (ji60)).f0)) || (!((((rd_T27 t134 x14_5).f1).toList) == (((rd_T27 t130 (ji60)).f1).toList)) || (!((((rd_T27 t134 x14_5).f2).toList) == (((rd_T27 t130 (ji60)).f2).toList)) || (!((((rd_T27 t134 x14_5).f3).toList) == (((rd_T27 t130 (ji60)).f3).toList)))))) = false := by simpa using c63
                                                    clear c63
                                                    have H' := Aside0.mk H
                                                    clear H
                                                    obtain ⟨Ao67, co67, eo67⟩ := Kd.R_slice HO_10.out
                                                    subst eo67
                                                    obtain ⟨Ao68, co68, eo68⟩ := Kd.R_slice HO_6.out
                                                    subst eo68
                                                    have p142 : 0 ≤ (x14_5 : Int) := of_decide_eq_true (by first | (with_reducible assumption) | assumption)
                                                    have q142 : x14_5 < (t134.length : Int) := of_decide_eq_true (by first | (with_reducible assumption) | assumption)
                                                    obtain ⟨ad142, e142, hx142_0, hx142_1, hx142_2, hx142_3⟩ := at_T27 (Kd.R_reads' HO_10.out).2.2 x14_5 p142 q142
                                                    cases e142
                                                    replace p142 := eq_true p142
                                                    replace q142 := eq_true q142
                                                    obtain ⟨Ao69, co69, eo69⟩ := Kd.R_slice HO_8.out
                                                    subst eo69
                                                    have p143 : 0 ≤ ((ji60) : Int) := of_decide_eq_true (by first | (with_reducible assumption) | assumption)
                                                    have q143 : (ji60) < (t130.length : Int) := of_decide_eq_true (by first | (with_reducible assumption) | assumption)
                                                    obtain ⟨ad143, e143, hx143_0, hx143_1, hx143_2, hx143_3⟩ := at_T27 (Kd.R_reads' HO_8.out).2.2 (ji60) p143 q143
                                                    cases e143
                                                    replace p143 := eq_true p143
                                                    replace q143 := eq_true q143
                                                    go_wp2
                                                    repeat (go_quiet (fail); try go_wp2)
                                                    go_roundg k5
                                                    case measure => have := HJ4.out; have := HJ13.out; have := HK3.out; have := HJ32.out; have := HK5.out; omega
                                                    case rel => exact ⟨(wrap64 (x14_5 + 1)), (by first | rfl | (simp; done) | (simp [*]; done)), H', ⟨by have := HJ4.out; have := HJ13.out; have := HK3.out; have := HJ32.out; have := HK5.out; omega⟩, ⟨by (with_reducible repeat (first | apply Kd.R_alloc | apply Kd.R_drewN | apply Kd.R_drew)); exact HO_6.out⟩, ⟨by (with_reducible repeat (first | apply Kd.R_alloc | apply Kd.R_drewN | apply Kd.R_drew)); exact HO_8.out⟩, ⟨by (with_reducible repeat (first | apply Kd.R_alloc | apply Kd.R_drewN | apply Kd.R_drew)); exact HO_10.out⟩, ⟨by repeat (first | (with_reducible first | exact HB.out | apply below_alloc | apply pw_below_drewN | apply below_drew1) | exact HB.out)⟩⟩
                                                · rw [if_neg c62] at H
                                                  exact absurd H (by simp)
                                              · rw [if_neg c61] at H
                                                exact absurd H (by simp)
                                            · rw [if_neg c59] at H
                                              exact absurd H (by simp)
                                          · rw [if_neg c58] at H
                                            have c58b0 : decide ((t126.length : Int) ≤ x14_5) = false := decide_eq_false c58
                                            clear c58
                                            have H' := Aside0.mk H
                                            clear H
                                            obtain ⟨Ao70, co70, eo70⟩ := Kd.R_slice HO_10.out
                                            subst eo70
                                            obtain ⟨Ao71, co71, eo71⟩ := Kd.R_slice HO_6.out
                                            subst eo71
                                            go_wp2
                                            repeat (go_quiet (fail); try go_wp2)
                                            go_roundg k5
                                            case measure => have := HJ4.out; have := HJ13.out; have := HK3.out; have := HJ32.out; have := HK5.out; omega
                                            case rel => exact ⟨(wrap64 (x14_5 + 1)), (by first | rfl | (simp; done) | (simp [*]; done)), H', ⟨by have := HJ4.out; have := HJ13.out; have := HK3.out; have := HJ32.out; have := HK5.out; omega⟩, ⟨by (with_reducible repeat (first | apply Kd.R_alloc | apply Kd.R_drewN | apply Kd.R_drew)); exact HO_6.out⟩, ⟨by (with_reducible repeat (first | apply Kd.R_alloc | apply Kd.R_drewN | apply Kd.R_drew)); exact HO_8.out⟩, ⟨by (with_reducible repeat (first | apply Kd.R_alloc | apply Kd.R_drewN | apply Kd.R_drew)); exact HO_10.out⟩, ⟨by repeat (first | (with_reducible first | exact HB.out | apply below_alloc | apply pw_below_drewN | apply below_drew1) | exact HB.out)⟩⟩
                                      · rw [if_neg c39] at H
                                        have c39b0 : decide (x14_5 < (t134.length : Int)) = false := decide_eq_false c39
                                        clear c39
                                        by_cases c72 : 8 + a0.size ≤ 9223372036854775807
                                        · rw [if_pos c72] at H
                                          have c72b0 := eq_true c72
                                          have c72b1 : decide (8 + a0.size ≤ 9223372036854775807) = true := decide_eq_true c72
                                          try have c72b2 : (9223372036854775807 < 8 + a0.size) = False := eq_false (Nat.not_lt.2 c72)
                                          by_cases c73 : ((⟨#[32, 40, 99, 40, 100, 41, 41, 32]⟩ : ByteArray) ++ a0).size + 4 ≤ 9223372036854775807
                                          · rw [if_pos c73] at H
                                            have c73b0 := eq_true c73
                                            have c73b1 : decide (((⟨#[32, 40, 99, 40, 100, 41, 41, 32]⟩ : ByteArray) ++ a0).size + 4 ≤ 9223372036854775807) = true := decide_eq_true c73
                                            try have c73b2 : (9223372036854775807 < ((⟨#[32, 40, 99, 40, 100, 41, 41, 32]⟩ : ByteArray) ++ a0).size + 4) = False := eq_false (Nat.not_lt.2 c73)
                                            try have c73b4 : (9223372036854775807 < 8 + a0.size + 4) = False := eq_false (Nat.not_lt.2 (by have h_ := c73; simp only [ByteArray.size_append] at h_; exact h_))
                                            replace H := Option.bind_eq_some_iff.mp H
                                            obtain ⟨⟨t144, t145⟩, A740, H⟩ := H
                                            replace H : (if t145 = true then (some ((t144.length : Int) == (t126.length : Int))) else (some false)) = some r := H
                                            have A74 := Aside0.mk A740
                                            clear A740
                                            by_cases c75 : t145 = true
                                            · subst c75
                                              have H1 : (some ((t144.length : Int) == (t126.length : Int))) = some r := by rw [if_pos rfl] at H; exact H
                                              clear H
                                              have H := H1
                                              clear H1
                                              obtain rfl := Option.some.inj H
                                              obtain ⟨Ao76, co76, eo76⟩ := Kd.R_slice HO_10.out
                                              subst eo76
                                              go_wp2_with (first | (go_at_call 8; (with_reducible refine (addr_List.calls k5 (((⟨#[32, 40, 99, 40, 100, 41, 41, 32]⟩ : ByteArray) ++ a0) ++ (⟨#[9, 40, 101, 41]⟩ : ByteArray)) t144 true _ A74.out).mono ?_); rintro e w77 ⟨v146, rfl, ho0, hb⟩; have n0_ := Aside0.mk (Kd.R_elder' (by (with_reducible repeat (first | apply Kd.R_alloc | apply Kd.R_drewN | apply Kd.R_drew)); exact HO_6.out) (Kd.R_base ho0) hb); have n1_ := Aside0.mk (Kd.R_elder' (by (with_reducible repeat (first | apply Kd.R_alloc | apply Kd.R_drewN | apply Kd.R_drew)); exact HO_8.out) (Kd.R_base ho0) hb); have n2_ := Aside0.mk (Kd.R_elder' (by (with_reducible repeat (first | apply Kd.R_alloc | apply Kd.R_drewN | apply Kd.R_drew)); exact HO_10.out) (Kd.R_base ho0) hb); have n3_ := Aside0.mk (Kd.R_lower (Kd.R_new' (Kd.R_new' (Kd.R_new' ho0 (Kd.R_lt (by (with_reducible repeat (first | apply Kd.R_alloc | apply Kd.R_drewN | apply Kd.R_drew)); exact HO_6.out))) (Kd.R_lt (by (with_reducible repeat (first | apply Kd.R_alloc | apply Kd.R_drewN | apply Kd.R_drew)); exact HO_8.out))) (Kd.R_lt (by (with_reducible repeat (first | apply Kd.R_alloc | apply Kd.R_drewN | apply Kd.R_drew)); exact HO_10.out))) (below_size (by repeat (first | (with_reducible first | exact HB.out | apply below_alloc | apply pw_below_drewN | apply below_drew1) | exact HB.out)))); have n4_ := Aside0.mk (below_step (by repeat (first | (with_reducible first | exact HB.out | apply below_alloc | apply pw_below_drewN | apply below_drew1) | exact HB.out)) hb); clear HO_6; clear HO_8; clear HO_10; clear HB; have HO_6 := n0_; have HO_8 := n1_; have HO_10 := n2_; have HO147 := n3_; have HB := n4_; clear n0_ n1_ n2_ n3_ n4_; (try clear hb); (try clear hb2); (try clear hk); (try clear hi); (try clear ho0); obtain ⟨Ao78, co78, eo78⟩ := Kd.R_slice HO147.out; subst eo78; obtain ⟨Ao79, co79, eo79⟩ := Kd.R_slice HO_6.out; subst eo79))
                                              repeat (go_quiet (first | (go_at_call 8; (with_reducible refine (addr_List.calls k5 (((⟨#[32, 40, 99, 40, 100, 41, 41, 32]⟩ : ByteArray) ++ a0) ++ (⟨#[9, 40, 101, 41]⟩ : ByteArray)) t144 true _ A74.out).mono ?_); rintro e w77 ⟨v146, rfl, ho0, hb⟩; have n0_ := Aside0.mk (Kd.R_elder' (by (with_reducible repeat (first | apply Kd.R_alloc | apply Kd.R_drewN | apply Kd.R_drew)); exact HO_6.out) (Kd.R_base ho0) hb); have n1_ := Aside0.mk (Kd.R_elder' (by (with_reducible repeat (first | apply Kd.R_alloc | apply Kd.R_drewN | apply Kd.R_drew)); exact HO_8.out) (Kd.R_base ho0) hb); have n2_ := Aside0.mk (Kd.R_elder' (by (with_reducible repeat (first | apply Kd.R_alloc | apply Kd.R_drewN | apply Kd.R_drew)); exact HO_10.out) (Kd.R_base ho0) hb); have n3_ := Aside0.mk (Kd.R_lower (Kd.R_new' (Kd.R_new' (Kd.R_new' ho0 (Kd.R_lt (by (with_reducible repeat (first | apply Kd.R_alloc | apply Kd.R_drewN | apply Kd.R_drew)); exact HO_6.out))) (Kd.R_lt (by (with_reducible repeat (first | apply Kd.R_alloc | apply Kd.R_drewN | apply Kd.R_drew)); exact HO_8.out))) (Kd.R_lt (by (with_reducible repeat (first | apply Kd.R_alloc | apply Kd.R_drewN | apply Kd.R_drew)); exact HO_10.out))) (below_size (by repeat (first | (with_reducible first | exact HB.out | apply below_alloc | apply pw_below_drewN | apply below_drew1) | exact HB.out)))); have n4_ := Aside0.mk (below_step (by repeat (first | (with_reducible first | exact HB.out | apply below_alloc | apply pw_below_drewN | apply below_drew1) | exact HB.out)) hb); clear HO_6; clear HO_8; clear HO_10; clear HB; have HO_6 := n0_; have HO_8 := n1_; have HO_10 := n2_; have HO147 := n3_; have HB := n4_; clear n0_ n1_ n2_ n3_ n4_; (try clear hb); (try clear hb2); (try clear hk); (try clear hi); (try clear ho0); obtain ⟨Ao78, co78, eo78⟩ := Kd.R_slice HO147.out; subst eo78; obtain ⟨Ao79, co79, eo79⟩ := Kd.R_slice HO_6.out; subst eo79)); try go_wp2_with (first | (go_at_call 8; (with_reducible refine (addr_List.calls k5 (((⟨#[32, 40, 99, 40, 100, 41, 41, 32]⟩ : ByteArray) ++ a0) ++ (⟨#[9, 40, 101, 41]⟩ : ByteArray)) t144 true _ A74.out).mono ?_); rintro e w77 ⟨v146, rfl, ho0, hb⟩; have n0_ := Aside0.mk (Kd.R_elder' (by (with_reducible repeat (first | apply Kd.R_alloc | apply Kd.R_drewN | apply Kd.R_drew)); exact HO_6.out) (Kd.R_base ho0) hb); have n1_ := Aside0.mk (Kd.R_elder' (by (with_reducible repeat (first | apply Kd.R_alloc | apply Kd.R_drewN | apply Kd.R_drew)); exact HO_8.out) (Kd.R_base ho0) hb); have n2_ := Aside0.mk (Kd.R_elder' (by (with_reducible repeat (first | apply Kd.R_alloc | apply Kd.R_drewN | apply Kd.R_drew)); exact HO_10.out) (Kd.R_base ho0) hb); have n3_ := Aside0.mk (Kd.R_lower (Kd.R_new' (Kd.R_new' (Kd.R_new' ho0 (Kd.R_lt (by (with_reducible repeat (first | apply Kd.R_alloc | apply Kd.R_drewN | apply Kd.R_drew)); exact HO_6.out))) (Kd.R_lt (by (with_reducible repeat (first | apply Kd.R_alloc | apply Kd.R_drewN | apply Kd.R_drew)); exact HO_8.out))) (Kd.R_lt (by (with_reducible repeat (first | apply Kd.R_alloc | apply Kd.R_drewN | apply Kd.R_drew)); exact HO_10.out))) (below_size (by repeat (first | (with_reducible first | exact HB.out | apply below_alloc | apply pw_below_drewN | apply below_drew1) | exact HB.out)))); have n4_ := Aside0.mk (below_step (by repeat (first | (with_reducible first | exact HB.out | apply below_alloc | apply pw_below_drewN | apply below_drew1) | exact HB.out)) hb); clear HO_6; clear HO_8; clear HO_10; clear HB; have HO_6 := n0_; have HO_8 := n1_; have HO_10 := n2_; have HO147 := n3_; have HB := n4_; clear n0_ n1_ n2_ n3_ n4_; (try clear hb); (try clear hb2); (try clear hk); (try clear hi); (try clear ho0); obtain ⟨Ao78, co78, eo78⟩ := Kd.R_slice HO147.out; subst eo78; obtain ⟨Ao79, co79, eo79⟩ := Kd.R_slice HO_6.out; subst eo79)))
                                              go_ret
                                              exact ⟨by first | rfl | (simp [errW_none, errW_some] <;> rfl) | (simp [*, errW_none, errW_some] <;> rfl), by repeat (first | (with_reducible first | exact HB.out | apply below_alloc | apply pw_below_drewN | apply below_drew1) | exact HB.out)⟩
                                            · replace c75 := Bool.eq_false_iff.mpr c75
                                              subst c75
                                              have H1 : (some false) = some r := by rw [if_neg (show ¬ (false = true) by decide)] at H; exact H
                                              clear H
                                              have H := H1
                                              clear H1
                                              obtain rfl := Option.some.inj H
                                              obtain ⟨Ao80, co80, eo80⟩ := Kd.R_slice HO_10.out
                                              subst eo80
                                              go_wp2_with (first | (go_at_call 8; (with_reducible refine (addr_List.calls k5 (((⟨#[32, 40, 99, 40, 100, 41, 41, 32]⟩ : ByteArray) ++ a0) ++ (⟨#[9, 40, 101, 41]⟩ : ByteArray)) t144 false _ A74.out).mono ?_); rintro e w81 ⟨v146, rfl, ho0, hb⟩; have n0_ := Aside0.mk (Kd.R_elder' (by (with_reducible repeat (first | apply Kd.R_alloc | apply Kd.R_drewN | apply Kd.R_drew)); exact HO_6.out) (Kd.R_base ho0) hb); have n1_ := Aside0.mk (Kd.R_elder' (by (with_reducible repeat (first | apply Kd.R_alloc | apply Kd.R_drewN | apply Kd.R_drew)); exact HO_8.out) (Kd.R_base ho0) hb); have n2_ := Aside0.mk (Kd.R_elder' (by (with_reducible repeat (first | apply Kd.R_alloc | apply Kd.R_drewN | apply Kd.R_drew)); exact HO_10.out) (Kd.R_base ho0) hb); have n3_ := Aside0.mk (Kd.R_lower (Kd.R_new' (Kd.R_new' (Kd.R_new' ho0 (Kd.R_lt (by (with_reducible repeat (first | apply Kd.R_alloc | apply Kd.R_drewN | apply Kd.R_drew)); exact HO_6.out))) (Kd.R_lt (by (with_reducible repeat (first | apply Kd.R_alloc | apply Kd.R_drewN | apply Kd.R_drew)); exact HO_8.out))) (Kd.R_lt (by (with_reducible repeat (first | apply Kd.R_alloc | apply Kd.R_drewN | apply Kd.R_drew)); exact HO_10.out))) (below_size (by repeat (first | (with_reducible first | exact HB.out | apply below_alloc | apply pw_below_drewN | apply below_drew1) | exact HB.out)))); have n4_ := Aside0.mk (below_step (by repeat (first | (with_reducible first | exact HB.out | apply below_alloc | apply pw_below_drewN | apply below_drew1) | exact HB.out)) hb); clear HO_6; clear HO_8; clear HO_10; clear HB; have HO_6 := n0_; have HO_8 := n1_; have HO_10 := n2_; have HO147 := n3_; have HB := n4_; clear n0_ n1_ n2_ n3_ n4_; (try clear hb); (try clear hb2); (try clear hk); (try clear hi); (try clear ho0)))
                                              repeat (go_quiet (first | (go_at_call 8; (with_reducible refine (addr_List.calls k5 (((⟨#[32, 40, 99, 40, 100, 41, 41, 32]⟩ : ByteArray) ++ a0) ++ (⟨#[9, 40, 101, 41]⟩ : ByteArray)) t144 false _ A74.out).mono ?_); rintro e w81 ⟨v146, rfl, ho0, hb⟩; have n0_ := Aside0.mk (Kd.R_elder' (by (with_reducible repeat (first | apply Kd.R_alloc | apply Kd.R_drewN | apply Kd.R_drew)); exact HO_6.out) (Kd.R_base ho0) hb); have n1_ := Aside0.mk (Kd.R_elder' (by (with_reducible repeat (first | apply Kd.R_alloc | apply Kd.R_drewN | apply Kd.R_drew)); exact HO_8.out) (Kd.R_base ho0) hb); have n2_ := Aside0.mk (Kd.R_elder' (by (with_reducible repeat (first | apply Kd.R_alloc | apply Kd.R_drewN | apply Kd.R_drew)); exact HO_10.out) (Kd.R_base ho0) hb); have n3_ := Aside0.mk (Kd.R_lower (Kd.R_new' (Kd.R_new' (Kd.R_new' ho0 (Kd.R_lt (by (with_reducible repeat (first | apply Kd.R_alloc | apply Kd.R_drewN | apply Kd.R_drew)); exact HO_6.out))) (Kd.R_lt (by (with_reducible repeat (first | apply Kd.R_alloc | apply Kd.R_drewN | apply Kd.R_drew)); exact HO_8.out))) (Kd.R_lt (by (with_reducible repeat (first | apply Kd.R_alloc | apply Kd.R_drewN | apply Kd.R_drew)); exact HO_10.out))) (below_size (by repeat (first | (with_reducible first | exact HB.out | apply below_alloc | apply pw_below_drewN | apply below_drew1) | exact HB.out)))); have n4_ := Aside0.mk (below_step (by repeat (first | (with_reducible first | exact HB.out | apply below_alloc | apply pw_below_drewN | apply below_drew1) | exact HB.out)) hb); clear HO_6; clear HO_8; clear HO_10; clear HB; have HO_6 := n0_; have HO_8 := n1_; have HO_10 := n2_; have HO147 := n3_; have HB := n4_; clear n0_ n1_ n2_ n3_ n4_; (try clear hb); (try clear hb2); (try clear hk); (try clear hi); (try clear ho0))); try go_wp2_with (first | (go_at_call 8; (with_reducible refine (addr_List.calls k5 (((⟨#[32, 40, 99, 40, 100, 41, 41, 32]⟩ : ByteArray) ++ a0) ++ (⟨#[9, 40, 101, 41]⟩ : ByteArray)) t144 false _ A74.out).mono ?_); rintro e w81 ⟨v146, rfl, ho0, hb⟩; have n0_ := Aside0.mk (Kd.R_elder' (by (with_reducible repeat (first | apply Kd.R_alloc | apply Kd.R_drewN | apply Kd.R_drew)); exact HO_6.out) (Kd.R_base ho0) hb); have n1_ := Aside0.mk (Kd.R_elder' (by (with_reducible repeat (first | apply Kd.R_alloc | apply Kd.R_drewN | apply Kd.R_drew)); exact HO_8.out) (Kd.R_base ho0) hb); have n2_ := Aside0.mk (Kd.R_elder' (by (with_reducible repeat (first | apply Kd.R_alloc | apply Kd.R_drewN | apply Kd.R_drew)); exact HO_10.out) (Kd.R_base ho0) hb); have n3_ := Aside0.mk (Kd.R_lower (Kd.R_new' (Kd.R_new' (Kd.R_new' ho0 (Kd.R_lt (by (with_reducible repeat (first | apply Kd.R_alloc | apply Kd.R_drewN | apply Kd.R_drew)); exact HO_6.out))) (Kd.R_lt (by (with_reducible repeat (first | apply Kd.R_alloc | apply Kd.R_drewN | apply Kd.R_drew)); exact HO_8.out))) (Kd.R_lt (by (with_reducible repeat (first | apply Kd.R_alloc | apply Kd.R_drewN | apply Kd.R_drew)); exact HO_10.out))) (below_size (by repeat (first | (with_reducible first | exact HB.out | apply below_alloc | apply pw_below_drewN | apply below_drew1) | exact HB.out)))); have n4_ := Aside0.mk (below_step (by repeat (first | (with_reducible first | exact HB.out | apply below_alloc | apply pw_below_drewN | apply below_drew1) | exact HB.out)) hb); clear HO_6; clear HO_8; clear HO_10; clear HB; have HO_6 := n0_; have HO_8 := n1_; have HO_10 := n2_; have HO147 := n3_; have HB := n4_; clear n0_ n1_ n2_ n3_ n4_; (try clear hb); (try clear hb2); (try clear hk); (try clear hi); (try clear ho0))))
                                              go_ret
                                              exact ⟨by first | rfl | (simp [errW_none, errW_some] <;> rfl) | (simp [*, errW_none, errW_some] <;> rfl), by repeat (first | (with_reducible first | exact HB.out | apply below_alloc | apply pw_below_drewN | apply below_drew1) | exact HB.out)⟩
                                          · rw [if_neg c73] at H
                                            exact absurd H (by simp)
                                        · rw [if_neg c72] at H
                                          exact absurd H (by simp)
            · rw [if_neg c12] at H
              exact absurd H (by simp)
          · rw [if_neg c11] at H
            exact absurd H (by simp)
  · replace c4 := Bool.eq_false_iff.mpr c4
    subst c4
    have H1 : (some false) = some r := by rw [if_neg (show ¬ (false = true) by decide)] at H; exact H
    clear H
    have H := H1
    clear H1
    obtain rfl := Option.some.inj H
    go_enter Try.func3, Try.ntmps3
    go_wp2_with (first | (go_at_call 7; (with_reducible refine (letterboxlaw10_awake.calls k  false _ A3.out).mono ?_); rintro e w82 ⟨rfl, hb⟩; have n0_ := Aside0.mk (below_step (by repeat (first | (with_reducible first | exact HB.out | apply below_alloc | apply pw_below_drewN | apply below_drew1) | exact HB.out)) hb); clear HB; have HB := n0_; clear n0_; (try clear hb); (try clear hb2); (try clear hk); (try clear hi)))
    repeat (go_quiet (first | (go_at_call 7; (with_reducible refine (letterboxlaw10_awake.calls k  false _ A3.out).mono ?_); rintro e w82 ⟨rfl, hb⟩; have n0_ := Aside0.mk (below_step (by repeat (first | (with_reducible first | exact HB.out | apply below_alloc | apply pw_below_drewN | apply below_drew1) | exact HB.out)) hb); clear HB; have HB := n0_; clear n0_; (try clear hb); (try clear hb2); (try clear hk); (try clear hi))); try go_wp2_with (first | (go_at_call 7; (with_reducible refine (letterboxlaw10_awake.calls k  false _ A3.out).mono ?_); rintro e w82 ⟨rfl, hb⟩; have n0_ := Aside0.mk (below_step (by repeat (first | (with_reducible first | exact HB.out | apply below_alloc | apply pw_below_drewN | apply below_drew1) | exact HB.out)) hb); clear HB; have HB := n0_; clear n0_; (try clear hb); (try clear hb2); (try clear hk); (try clear hi))))
    go_ret
    exact ⟨by first | rfl | (simp [errW_none, errW_some] <;> rfl) | (simp [*, errW_none, errW_some] <;> rfl), by repeat (first | (with_reducible first | exact HB.out | apply below_alloc | apply pw_below_drewN | apply below_drew1) | exact HB.out)⟩

/-- THE ONE PURE STATEMENT of letterboxlaw10_AddrParts: yours. -/
def letterboxlaw10_AddrParts.Pure : Prop := ∀ (a0 : ByteArray) (a1 : ByteArray), a0.size ≤ 140737488351232 → a1.size ≤ 140737488351232 → ∃ k, letterboxlaw10_AddrParts.f k a0 a1 = some true
theorem letterboxlaw10_AddrParts.walk (P : letterboxlaw10_AddrParts.Pure) (a0 : ByteArray) (a1 : ByteArray) (w : World) (w0 : a0.size ≤ 140737488351232) (w1 : a1.size ≤ 140737488351232) :
    Calls Try.prog 3 #[.string a0, .string a1] w fun e w' => e = .returned (.bool true) ∧ Below w.heap.size w w' := by
  obtain ⟨k, h⟩ := P a0 a1 w0 w1
  refine (letterboxlaw10_AddrParts.calls k a0 a1 true w h).mono ?_
  rintro e w' ⟨rfl, hd⟩
  exact ⟨rfl, hd⟩

end Go.Proofs.Ytcjepgofcojeoaa.P
