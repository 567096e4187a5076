-- Written by a program of this session (wip/tools/mk.sh) for this claim: it runs the kit's print with contracts of our own. Lean checks it.
import Derived.Test.YtannphcahjchjaaPx0
import Derived.Test.YtannphcahjchjaaPx2
import Derived.Test.YtannphcahjchjaaPx4
import Derived.Test.YtannphcahjchjaaPx5
namespace Go.Proofs.Ytannphcahjchjaa.P
open Go.RowKit Go.Proofs.YtannphcahjchjaaW.PrintWords Go.Proofs.YtannphcahjchjaaW.PrintLast Go.Proofs.YtannphcahjchjaaW.PrintMore
attribute [local go_sem] max2_int min2_int max_two min_two max_three min_three max_four min_four   -- for this text's walks alone
set_option linter.unusedVariables false
set_option linter.unusedSimpArgs false

/-! ### letterboxlaw01_CharsTrims: function 8 -/
mutual
def letterboxlaw01_CharsTrims.j0 : Nat → ByteArray → List Int → Bool → Option (Bool)
  | 0, _, _, _ => none
  | k + 1, x0, x1, x19 => if x19 = true then (some true) else ((chars_Trim.f k x0).bind fun t186 => (letterboxlaw01_CharsTrims.l0 k x0 x1 t186 (⟨#[]⟩ : ByteArray) 0))
def letterboxlaw01_CharsTrims.l0 : Nat → ByteArray → List Int → ByteArray → ByteArray → Int → Option (Bool)
  | 0, _, _, _, _, _ => none
  | k + 1, x0, x1, x6, x7, x8 => if x8 < (x1.length : Int) then (if 0 ≤ x8 then (if 0 ≤ (Go.bits .and .u8 (rd x1 x8) 1) then (if (Go.bits .and .u8 (rd x1 x8) 1) ≤ (((Go.bits .and .u8 (rd x1 x8) 1) + 1) % 256) then (if (((Go.bits .and .u8 (rd x1 x8) 1) + 1) % 256) ≤ 2 then (if x7.size + ((⟨#[32, 9]⟩ : ByteArray).extract ((Go.bits .and .u8 (rd x1 x8) 1) : Int).toNat ((((Go.bits .and .u8 (rd x1 x8) 1) + 1) % 256) : Int).toNat).size ≤ 9223372036854775807 then (letterboxlaw01_CharsTrims.l0 k x0 x1 x6 (x7 ++ ((⟨#[32, 9]⟩ : ByteArray).extract ((Go.bits .and .u8 (rd x1 x8) 1) : Int).toNat ((((Go.bits .and .u8 (rd x1 x8) 1) + 1) % 256) : Int).toNat)) (wrap64 (x8 + 1))) else (none)) else (none)) else (none)) else (none)) else (none)) else (if (x6.size : Int) > 0 then (if 0 < (x6.size : Int) then ((chars_Blank.f (bt x6 0)).bind fun t189 => (if t189 = true then (letterboxlaw01_CharsTrims.j2 k x0 x6 x7 true) else (if 0 ≤ (wrap64 ((x6.size : Int) - 1)) then (if (wrap64 ((x6.size : Int) - 1)) < (x6.size : Int) then ((chars_Blank.f (bt x6 (wrap64 ((x6.size : Int) - 1)))).bind fun t190 => (letterboxlaw01_CharsTrims.j2 k x0 x6 x7 t190)) else (none)) else (none)))) else (none)) else (letterboxlaw01_CharsTrims.j2 k x0 x6 x7 false))
def letterboxlaw01_CharsTrims.j2 : Nat → ByteArray → ByteArray → ByteArray → Bool → Option (Bool)
  | 0, _, _, _, _ => none
  | k + 1, x0, x6, x7, x57 => if x57 = true then (some false) else (if x7.size + x0.size ≤ 9223372036854775807 then ((chars_Trim.f k (x7 ++ x0)).bind fun t191 => (if t191.toList = x6.toList then (if x0.size + x7.size ≤ 9223372036854775807 then ((chars_Trim.f k (x0 ++ x7)).bind fun t192 => (if t192.toList = x6.toList then ((chars_Trim.f k x6).bind fun t193 => (if t193.toList = x6.toList then ((chars_Trim.f k x7).bind fun t194 => (some (t194.toList == ([] : List UInt8)))) else (some false))) else (some false))) else (none)) else (some false))) else (none))
end
def letterboxlaw01_CharsTrims.f (k : Nat) (a0 : ByteArray) (l1 : List Int) : Option (Bool) := (letterboxlaw01_awake.f k).bind fun t185 => (if t185 = true then (if (a0.size : Int) > 200 then (letterboxlaw01_CharsTrims.j0 k a0 l1 true) else (letterboxlaw01_CharsTrims.j0 k a0 l1 (decide ((l1.length : Int) > 20)))) else (some false))
theorem letterboxlaw01_CharsTrims.mono_l : ∀ k, (∀ y0 y1 y2, LeO (letterboxlaw01_CharsTrims.j0 k y0 y1 y2) (letterboxlaw01_CharsTrims.j0 (k + 1) y0 y1 y2)) ∧ (∀ y0 y1 y2 y3 y4, LeO (letterboxlaw01_CharsTrims.l0 k y0 y1 y2 y3 y4) (letterboxlaw01_CharsTrims.l0 (k + 1) y0 y1 y2 y3 y4)) ∧ (∀ y0 y1 y2 y3, LeO (letterboxlaw01_CharsTrims.j2 k y0 y1 y2 y3) (letterboxlaw01_CharsTrims.j2 (k + 1) y0 y1 y2 y3))
  | 0 => ⟨fun _ _ _ r h => by simp [letterboxlaw01_CharsTrims.j0] at h, fun _ _ _ _ _ r h => by simp [letterboxlaw01_CharsTrims.l0] at h, fun _ _ _ _ r h => by simp [letterboxlaw01_CharsTrims.j2] at h⟩
  | k + 1 => by
    obtain ⟨ih0, ih1, ih2⟩ := letterboxlaw01_CharsTrims.mono_l k
    refine ⟨?_, ?_, ?_⟩
    · intro y0 y1 y2
      unfold letterboxlaw01_CharsTrims.j0
      repeat' first
      | (with_reducible exact ih0 _ _ _)
      | (with_reducible exact ih1 _ _ _ _ _)
      | (with_reducible exact ih2 _ _ _ _)
      | (with_reducible exact chars_Trim.mono _ _)
      | (with_reducible exact letterboxlaw01_awake.mono _)
      | (with_reducible exact LeO.refl _)
      | (with_reducible exact LeO.none _)
      | (with_reducible refine LeO.ite ?_ ?_)
      | (with_reducible refine LeO.bind ?_ (fun _ => ?_))
      | exact ih0 _ _ _
      | exact ih1 _ _ _ _ _
      | exact ih2 _ _ _ _
      | exact chars_Trim.mono _ _
      | exact letterboxlaw01_awake.mono _
      | exact LeO.none _
      | refine LeO.ite ?_ ?_
      | refine LeO.bind ?_ (fun _ => ?_)
    · intro y0 y1 y2 y3 y4
      unfold letterboxlaw01_CharsTrims.l0
      repeat' first
      | (with_reducible exact ih0 _ _ _)
      | (with_reducible exact ih1 _ _ _ _ _)
      | (with_reducible exact ih2 _ _ _ _)
      | (with_reducible exact chars_Trim.mono _ _)
      | (with_reducible exact letterboxlaw01_awake.mono _)
      | (with_reducible exact LeO.refl _)
      | (with_reducible exact LeO.none _)
      | (with_reducible refine LeO.ite ?_ ?_)
      | (with_reducible refine LeO.bind ?_ (fun _ => ?_))
      | exact ih0 _ _ _
      | exact ih1 _ _ _ _ _
      | exact ih2 _ _ _ _
      | exact chars_Trim.mono _ _
      | exact letterboxlaw01_awake.mono _
      | exact LeO.none _
      | refine LeO.ite ?_ ?_
      | refine LeO.bind ?_ (fun _ => ?_)
    · intro y0 y1 y2 y3
      unfold letterboxlaw01_CharsTrims.j2
      repeat' first
      | (with_reducible exact ih0 _ _ _)
      | (with_reducible exact ih1 _ _ _ _ _)
      | (with_reducible exact ih2 _ _ _ _)
      | (with_reducible exact chars_Trim.mono _ _)
      | (with_reducible exact letterboxlaw01_awake.mono _)
      | (with_reducible exact LeO.refl _)
      | (with_reducible exact LeO.none _)
      | (with_reducible refine LeO.ite ?_ ?_)
      | (with_reducible refine LeO.bind ?_ (fun _ => ?_))
      | exact ih0 _ _ _
      | exact ih1 _ _ _ _ _
      | exact ih2 _ _ _ _
      | exact chars_Trim.mono _ _
      | exact letterboxlaw01_awake.mono _
      | exact LeO.none _
      | refine LeO.ite ?_ ?_
      | refine LeO.bind ?_ (fun _ => ?_)
theorem letterboxlaw01_CharsTrims.mono : ∀ a0 a1 k, LeO (letterboxlaw01_CharsTrims.f k a0 a1) (letterboxlaw01_CharsTrims.f (k + 1) a0 a1) := by
  intro a0 a1 k
  obtain ⟨ih0, ih1, ih2⟩ := letterboxlaw01_CharsTrims.mono_l k
  unfold letterboxlaw01_CharsTrims.f
  repeat' first
      | (with_reducible exact ih0 _ _ _)
      | (with_reducible exact ih1 _ _ _ _ _)
      | (with_reducible exact ih2 _ _ _ _)
      | (with_reducible exact chars_Trim.mono _ _)
      | (with_reducible exact letterboxlaw01_awake.mono _)
      | (with_reducible exact LeO.refl _)
      | (with_reducible exact LeO.none _)
      | (with_reducible refine LeO.ite ?_ ?_)
      | (with_reducible refine LeO.bind ?_ (fun _ => ?_))
      | exact ih0 _ _ _
      | exact ih1 _ _ _ _ _
      | exact ih2 _ _ _ _
      | exact chars_Trim.mono _ _
      | exact letterboxlaw01_awake.mono _
      | exact LeO.none _
      | refine LeO.ite ?_ ?_
      | refine LeO.bind ?_ (fun _ => ?_)
set_option maxHeartbeats 8000000 in
set_option maxRecDepth 100000 in
theorem letterboxlaw01_CharsTrims.calls (k : Nat) (a0 : ByteArray) (A1 : Option Addr) (c1 : Nat) (l1 : List Int) (r : Bool) (w : World) (hr1 : Kd.C (Kd.int .u8) w A1 l1.length l1) (hc1 : l1.length ≤ c1) (h : letterboxlaw01_CharsTrims.f k a0 l1 = some r) :
    Calls Try.prog 8 #[.string a0, .slice A1 l1.length c1] w fun e w' => e = .returned (.bool r) ∧ Below w.heap.size w w' := by
  have hw8_ : ∀ x_ : Int, IntKind.u8.wrap x_ = x_ % 256 := IntKind.wrap_u8
  have HR1 := Aside0.mk hr1
  have HC1 := Aside0.mk hc1
  clear hr1 hc1
  have HB := Aside0.mk (Below.refl w.heap.size w)
  have H : ((letterboxlaw01_awake.f k).bind fun t185 => (if t185 = true then (if (a0.size : Int) > 200 then (letterboxlaw01_CharsTrims.j0 k a0 l1 true) else (letterboxlaw01_CharsTrims.j0 k a0 l1 (decide ((l1.length : Int) > 20)))) else (some false))) = some r := h
  clear h
  replace H := Option.bind_eq_some_iff.mp H
  obtain ⟨t185, A30, H⟩ := H
  replace H : (if t185 = true then (if (a0.size : Int) > 200 then (letterboxlaw01_CharsTrims.j0 k a0 l1 true) else (letterboxlaw01_CharsTrims.j0 k a0 l1 (decide ((l1.length : Int) > 20)))) else (some false)) = some r := H
  have A3 := Aside0.mk A30
  clear A30
  by_cases c4 : t185 = true
  · subst c4
    have H1 : (if (a0.size : Int) > 200 then (letterboxlaw01_CharsTrims.j0 k a0 l1 true) else (letterboxlaw01_CharsTrims.j0 k a0 l1 (decide ((l1.length : Int) > 20)))) = some r := by rw [if_pos rfl] at H; exact H
    clear H
    have H := H1
    clear H1
    have HC5 := Aside0.mk H
    clear H
    go_enter Try.func8, Try.ntmps8
    go_upto_region 4 with (first | (go_at_call 9; (with_reducible refine (letterboxlaw01_awake.calls k  true _ A3.out).mono ?_); rintro e w6 ⟨rfl, hb⟩; have n0_ := Aside0.mk (below_step (by repeat (first | (with_reducible first | exact HB.out | apply below_alloc | apply pw_below_drewN | apply below_drew1) | exact HB.out)) hb); clear HB; have HB := n0_; clear n0_; (try clear hb); (try clear hb2); (try clear hk); (try clear hi)))
    repeat (go_quiet (first | (go_at_call 9; (with_reducible refine (letterboxlaw01_awake.calls k  true _ A3.out).mono ?_); rintro e w6 ⟨rfl, hb⟩; have n0_ := Aside0.mk (below_step (by repeat (first | (with_reducible first | exact HB.out | apply below_alloc | apply pw_below_drewN | apply below_drew1) | exact HB.out)) hb); clear HB; have HB := n0_; clear n0_; (try clear hb); (try clear hb2); (try clear hk); (try clear hi))); go_upto_region 4 with (first | (go_at_call 9; (with_reducible refine (letterboxlaw01_awake.calls k  true _ A3.out).mono ?_); rintro e w6 ⟨rfl, hb⟩; have n0_ := Aside0.mk (below_step (by repeat (first | (with_reducible first | exact HB.out | apply below_alloc | apply pw_below_drewN | apply below_drew1) | exact HB.out)) hb); clear HB; have HB := n0_; clear n0_; (try clear hb); (try clear hb2); (try clear hk); (try clear hi))))
    (try simp only [Act.put, List.setIfInBounds_toArray, List.set_cons_zero, List.set_cons_succ])
    go_cut [19] (fun v19 wc => ∃ (kq : Nat) (x19_4 : Bool), v19 = .bool x19_4 ∧ Aside0 (letterboxlaw01_CharsTrims.j0 kq a0 l1 x19_4 = some r) ∧ Aside0 (kq ≤ k) ∧ Aside0 (Below w.heap.size w wc))
    case first =>
      have H := HC5.out
      clear HC5
      by_cases c7 : (a0.size : Int) > 200
      · rw [if_pos c7] at H
        have c7b0 : decide (200 < (a0.size : Int)) = true := decide_eq_true c7
        have c7b1 : decide (200 < a0.size) = true := decide_eq_true (by omega)
        clear c7
        (first | rw [c7b0] | (simp only [i64_w, i32_w]; rw [c7b0]) | skip)
        have H' := Aside0.mk H
        clear H
        go_wp2
        repeat (go_quiet (fail); try go_wp2)
        go_meet
        case rel => exact ⟨_, (true), (by first | rfl | (simp; done) | (simp [*]; done)), H', ⟨by first | omega | exact Nat.le_refl _⟩, ⟨by repeat (first | (with_reducible first | exact HB.out | apply below_alloc | apply pw_below_drewN | apply below_drew1) | exact HB.out)⟩⟩
      · rw [if_neg c7] at H
        have c7b0 : decide (200 < (a0.size : Int)) = false := decide_eq_false c7
        have c7b1 : decide (200 < a0.size) = false := decide_eq_false (by omega)
        clear c7
        (first | rw [c7b0] | (simp only [i64_w, i32_w]; rw [c7b0]) | skip)
        have H' := Aside0.mk H
        clear H
        go_wp2
        repeat (go_quiet (fail); try go_wp2)
        go_meet
        case rel => exact ⟨_, (decide ((l1.length : Int) > 20)), (by first | rfl | (simp; done) | (simp [*]; done)), H', ⟨by first | omega | exact Nat.le_refl _⟩, ⟨by repeat (first | (with_reducible first | exact HB.out | apply below_alloc | apply pw_below_drewN | apply below_drew1) | exact HB.out)⟩⟩
    case rest =>
      clear HC5
      try clear c1
      try clear p2
      try clear c4
      try clear c7
      try clear c7b0
      try clear c7b1
      obtain ⟨kq, x19_4, rfl, HA, HJ4, HB⟩ := hcut
      cases kq with
      | zero => exact absurd HA.out (by simp [letterboxlaw01_CharsTrims.j0])
      | succ kj4 =>
        have H := HA.out
        clear HA
        simp only [letterboxlaw01_CharsTrims.j0] at H
        by_cases c8 : x19_4 = true
        · subst c8
          have H1 : (some true) = some r := by rw [if_pos rfl] at H; exact H
          clear H
          have H := H1
          clear H1
          obtain rfl := Option.some.inj H
          go_wp2
          repeat (go_quiet (fail); try go_wp2)
          go_ret
          exact ⟨by first | rfl | (simp [errW_none, errW_some] <;> rfl) | (simp [*, errW_none, errW_some] <;> rfl), by repeat (first | (with_reducible first | exact HB.out | apply below_alloc | apply pw_below_drewN | apply below_drew1) | exact HB.out)⟩
        · replace c8 := Bool.eq_false_iff.mpr c8
          subst c8
          have H1 : ((chars_Trim.f kj4 a0).bind fun t186 => (letterboxlaw01_CharsTrims.l0 kj4 a0 l1 t186 (⟨#[]⟩ : ByteArray) 0)) = some r := by rw [if_neg (show ¬ (false = true) by decide)] at H; exact H
          clear H
          have H := H1
          clear H1
          replace H := Option.bind_eq_some_iff.mp H
          obtain ⟨t186, A90, H⟩ := H
          replace H : (letterboxlaw01_CharsTrims.l0 kj4 a0 l1 t186 (⟨#[]⟩ : ByteArray) 0) = some r := H
          have A9 := Aside0.mk A90
          clear A90
          have H' := Aside0.mk H
          clear H
          go_wp2_with (first | (go_at_call 26; (with_reducible refine (chars_Trim.calls kj4 a0 t186 _ A9.out).mono ?_); rintro e w' ⟨rfl, ⟨nd, rfl⟩⟩; (try first | exact ⟨rfl, _, World.drewN_drewN _ _ _⟩ | exact ⟨rfl, _, Eq.trans (World.drewN_drewN _ _ _) (congrArg (World.drewN _) (Nat.add_assoc _ _ _))⟩)))
          repeat (go_quiet (first | (go_at_call 26; (with_reducible refine (chars_Trim.calls kj4 a0 t186 _ A9.out).mono ?_); rintro e w' ⟨rfl, ⟨nd, rfl⟩⟩; (try first | exact ⟨rfl, _, World.drewN_drewN _ _ _⟩ | exact ⟨rfl, _, Eq.trans (World.drewN_drewN _ _ _) (congrArg (World.drewN _) (Nat.add_assoc _ _ _))⟩))); try go_wp2_with (first | (go_at_call 26; (with_reducible refine (chars_Trim.calls kj4 a0 t186 _ A9.out).mono ?_); rintro e w' ⟨rfl, ⟨nd, rfl⟩⟩; (try first | exact ⟨rfl, _, World.drewN_drewN _ _ _⟩ | exact ⟨rfl, _, Eq.trans (World.drewN_drewN _ _ _) (congrArg (World.drewN _) (Nat.add_assoc _ _ _))⟩))))
          go_loopg [7, 8] kj4 (fun kq v7 v8 w' => ∃ (x7_2 : ByteArray) (x8_2 : Int), v7 = .string x7_2 ∧ v8 = .int .i64 x8_2 ∧ Aside0 (letterboxlaw01_CharsTrims.l0 kq a0 l1 t186 x7_2 x8_2 = some r) ∧ Aside0 (kq ≤ kj4) ∧ Aside0 (Below w.heap.size w w'))
          case atStart => exact ⟨((⟨#[]⟩ : ByteArray)), (0), (by first | rfl | (simp; done) | (simp [*]; done)), (by first | rfl | (simp; done) | (simp [*]; done)), H', ⟨Nat.le_refl _⟩, ⟨by repeat (first | (with_reducible first | exact HB.out | apply below_alloc | apply pw_below_drewN | apply below_drew1) | exact HB.out)⟩⟩
          case round =>
            clear H'
            try clear c1
            try clear p2
            try clear c4
            try clear c7
            try clear c7b0
            try clear c7b1
            try clear c8
            try clear p2
            obtain ⟨x7_2, x8_2, rfl, rfl, HA, HK2, HB⟩ := hrel
            cases gk with
            | zero => exact absurd HA.out (by simp [letterboxlaw01_CharsTrims.l0])
            | succ k2 =>
              have H := HA.out
              clear HA
              simp only [letterboxlaw01_CharsTrims.l0] at H
              by_cases c10 : x8_2 < (l1.length : Int)
              · rw [if_pos c10] at H
                have c10b0 : decide (x8_2 < (l1.length : Int)) = true := decide_eq_true c10
                clear c10
                by_cases c11 : 0 ≤ x8_2
                · rw [if_pos c11] at H
                  have c11b0 : decide (0 ≤ x8_2) = true := decide_eq_true c11
                  clear c11
                  by_cases c12 : 0 ≤ (Go.bits .and .u8 (rd l1 x8_2) 1)
                  · rw [if_pos c12] at H
                    have c12b0 := eq_true c12
                    have c12b1 : decide (0 ≤ (Go.bits .and .u8 (rd l1 x8_2) 1)) = true := decide_eq_true c12
                    clear c12
                    by_cases c13 : (Go.bits .and .u8 (rd l1 x8_2) 1) ≤ (((Go.bits .and .u8 (rd l1 x8_2) 1) + 1) % 256)
                    · rw [if_pos c13] at H
                      have c13b0 := eq_true c13
                      have c13b1 : decide ((Go.bits .and .u8 (rd l1 x8_2) 1) ≤ (((Go.bits .and .u8 (rd l1 x8_2) 1) + 1) % 256)) = true := decide_eq_true c13
                      by_cases c14 : (((Go.bits .and .u8 (rd l1 x8_2) 1) + 1) % 256) ≤ 2
                      · rw [if_pos c14] at H
                        have c14b0 := eq_true c14
                        have c14b1 : decide ((((Go.bits .and .u8 (rd l1 x8_2) 1) + 1) % 256) ≤ 2) = true := decide_eq_true c14
                        by_cases c15 : x7_2.size + ((⟨#[32, 9]⟩ : ByteArray).extract ((Go.bits .and .u8 (rd l1 x8_2) 1) : Int).toNat ((((Go.bits .and .u8 (rd l1 x8_2) 1) + 1) % 256) : Int).toNat).size ≤ 9223372036854775807
                        · rw [if_pos c15] at H
                          have c15b0 := eq_true c15
                          have c15b1 : decide (x7_2.size + ((⟨#[32, 9]⟩ : ByteArray).extract ((Go.bits .and .u8 (rd l1 x8_2) 1) : Int).toNat ((((Go.bits .and .u8 (rd l1 x8_2) 1) + 1) % 256) : Int).toNat).size ≤ 9223372036854775807) = true := decide_eq_true c15
                          try have c15b2 : (9223372036854775807 < x7_2.size + ((⟨#[32, 9]⟩ : ByteArray).extract ((Go.bits .and .u8 (rd l1 x8_2) 1) : Int).toNat ((((Go.bits .and .u8 (rd l1 x8_2) 1) + 1) % 256) : Int).toNat).size) = False := eq_false (Nat.not_lt.2 c15)
                          try have c15b5 : (9223372036854775807 < x7_2.size + (((((Go.bits .and .u8 (rd l1 x8_2) 1) + 1) % 256) : Int).toNat - ((Go.bits .and .u8 (rd l1 x8_2) 1) : Int).toNat)) = False := eq_false (Nat.not_lt.2 (by have h_ := c15; simp only [ByteArray.size_append, ByteArray.size_extract] at h_ ⊢; simp only [ByteArray.size, List.size_toArray, List.length] at h_ ⊢; omega))
                          have H' := Aside0.mk H
                          clear H
                          have p187 : 0 ≤ (x8_2 : Int) := of_decide_eq_true (by first | (with_reducible assumption) | assumption)
                          have q187 : x8_2 < (l1.length : Int) := of_decide_eq_true (by first | (with_reducible assumption) | assumption)
                          obtain ⟨ad187, e187, hx187_0⟩ := Kd.at_int HR1.out x8_2 p187 q187
                          cases e187
                          replace hx187_0 := (HB.out.cell (World.block_lt_of_cell? w _ hx187_0)).trans hx187_0
                          replace p187 := eq_true p187
                          replace q187 := eq_true q187
                          have p188 : 0 ≤ (x8_2 : Int) := of_decide_eq_true (by first | (with_reducible assumption) | assumption)
                          have q188 : x8_2 < (l1.length : Int) := of_decide_eq_true (by first | (with_reducible assumption) | assumption)
                          obtain ⟨ad188, e188, hx188_0⟩ := Kd.at_int HR1.out x8_2 p188 q188
                          obtain rfl : ad187 = ad188 := (by injection e188)
                          replace hx188_0 := (HB.out.cell (World.block_lt_of_cell? w _ hx188_0)).trans hx188_0
                          replace p188 := eq_true p188
                          replace q188 := eq_true q188
                          go_wp2
                          repeat (go_quiet (fail); try go_wp2)
                          go_roundg k2
                          case measure => have := HJ4.out; have := HK2.out; omega
                          case rel => exact ⟨(x7_2 ++ ((⟨#[32, 9]⟩ : ByteArray).extract ((Go.bits .and .u8 (rd l1 x8_2) 1) : Int).toNat ((((Go.bits .and .u8 (rd l1 x8_2) 1) + 1) % 256) : Int).toNat)), (wrap64 (x8_2 + 1)), (by first | rfl | (simp; done) | (simp [*]; done)), (by first | rfl | (simp; done) | (simp [*]; done)), H', ⟨by have := HJ4.out; have := HK2.out; omega⟩, ⟨by repeat (first | (with_reducible first | exact HB.out | apply below_alloc | apply pw_below_drewN | apply below_drew1) | exact HB.out)⟩⟩
                        · rw [if_neg c15] at H
                          exact absurd H (by simp)
                      · rw [if_neg c14] at H
                        exact absurd H (by simp)
                    · rw [if_neg c13] at H
                      exact absurd H (by simp)
                  · rw [if_neg c12] at H
                    exact absurd H (by simp)
                · rw [if_neg c11] at H
                  exact absurd H (by simp)
              · rw [if_neg c10] at H
                have c10b0 : decide (x8_2 < (l1.length : Int)) = false := decide_eq_false c10
                clear c10
                have HC16 := Aside0.mk H
                clear H
                go_upto_region 12 with (fail)
                repeat (go_quiet (fail); go_upto_region 12 with (fail))
                go_cut [57] (fun v57 wc => ∃ (kq : Nat) (x57_15 : Bool), v57 = .bool x57_15 ∧ Aside0 (letterboxlaw01_CharsTrims.j2 kq a0 t186 x7_2 x57_15 = some r) ∧ Aside0 (kq ≤ k2) ∧ Aside0 (Below w.heap.size w wc))
                case first =>
                  have H := HC16.out
                  clear HC16
                  by_cases c17 : (t186.size : Int) > 0
                  · rw [if_pos c17] at H
                    have c17b0 : decide (0 < (t186.size : Int)) = true := decide_eq_true c17
                    have c17b1 : decide (0 < t186.size) = true := decide_eq_true (by omega)
                    clear c17
                    (first | rw [c17b0] | (simp only [i64_w, i32_w]; rw [c17b0]) | skip)
                    by_cases c18 : 0 < (t186.size : Int)
                    · rw [if_pos c18] at H
                      have c18b0 : decide (0 < (t186.size : Int)) = true := decide_eq_true c18
                      have c18b1 : decide (0 < t186.size) = true := decide_eq_true (by omega)
                      clear c18
                      replace H := Option.bind_eq_some_iff.mp H
                      obtain ⟨t189, A200, H⟩ := H
                      replace H : (if t189 = true then (letterboxlaw01_CharsTrims.j2 k2 a0 t186 x7_2 true) else (if 0 ≤ (wrap64 ((t186.size : Int) - 1)) then (if (wrap64 ((t186.size : Int) - 1)) < (t186.size : Int) then ((chars_Blank.f (bt t186 (wrap64 ((t186.size : Int) - 1)))).bind fun t190 => (letterboxlaw01_CharsTrims.j2 k2 a0 t186 x7_2 t190)) else (none)) else (none))) = some r := H
                      have A20 := Aside0.mk A200
                      clear A200
                      by_cases c21 : t189 = true
                      · subst c21
                        have H1 : (letterboxlaw01_CharsTrims.j2 k2 a0 t186 x7_2 true) = some r := by rw [if_pos rfl] at H; exact H
                        clear H
                        have H := H1
                        clear H1
                        have H' := Aside0.mk H
                        clear H
                        have p19 : 0 ≤ (0 : Int) := (by omega)
                        have q19 : 0 < t186.size := (by have : (0 : Int) < (t186.size : Int) := of_decide_eq_true (by first | (with_reducible assumption) | assumption); omega)
                        have hx19 : ∀ h : 0 < t186.size, ((t186[0]'h).toNat : Int) = bt t186 0 := bt_at t186 0
                        clear p19
                        have qi19 : (0 < (t186.size : Int)) = True := eq_true (of_decide_eq_true (by first | (with_reducible assumption) | assumption))
                        replace q19 := eq_true q19
                        go_wp2_with (first | (go_at_call 22; (with_reducible refine (chars_Blank.calls (bt t186 0) true _ A20.out).mono ?_); rintro e w' ⟨rfl, ⟨nd, rfl⟩⟩; (try first | exact ⟨rfl, _, World.drewN_drewN _ _ _⟩ | exact ⟨rfl, _, Eq.trans (World.drewN_drewN _ _ _) (congrArg (World.drewN _) (Nat.add_assoc _ _ _))⟩)))
                        repeat (go_quiet (first | (go_at_call 22; (with_reducible refine (chars_Blank.calls (bt t186 0) true _ A20.out).mono ?_); rintro e w' ⟨rfl, ⟨nd, rfl⟩⟩; (try first | exact ⟨rfl, _, World.drewN_drewN _ _ _⟩ | exact ⟨rfl, _, Eq.trans (World.drewN_drewN _ _ _) (congrArg (World.drewN _) (Nat.add_assoc _ _ _))⟩))); try go_wp2_with (first | (go_at_call 22; (with_reducible refine (chars_Blank.calls (bt t186 0) true _ A20.out).mono ?_); rintro e w' ⟨rfl, ⟨nd, rfl⟩⟩; (try first | exact ⟨rfl, _, World.drewN_drewN _ _ _⟩ | exact ⟨rfl, _, Eq.trans (World.drewN_drewN _ _ _) (congrArg (World.drewN _) (Nat.add_assoc _ _ _))⟩))))
                        go_meet
                        case rel => exact ⟨_, (true), (by first | rfl | (simp; done) | (simp [*]; done)), H', ⟨by have := HJ4.out; have := HK2.out; first | omega | exact Nat.le_refl _⟩, ⟨by repeat (first | (with_reducible first | exact HB.out | apply below_alloc | apply pw_below_drewN | apply below_drew1) | exact HB.out)⟩⟩
                      · replace c21 := Bool.eq_false_iff.mpr c21
                        subst c21
                        have H1 : (if 0 ≤ (wrap64 ((t186.size : Int) - 1)) then (if (wrap64 ((t186.size : Int) - 1)) < (t186.size : Int) then ((chars_Blank.f (bt t186 (wrap64 ((t186.size : Int) - 1)))).bind fun t190 => (letterboxlaw01_CharsTrims.j2 k2 a0 t186 x7_2 t190)) else (none)) else (none)) = some r := by rw [if_neg (show ¬ (false = true) by decide)] at H; exact H
                        clear H
                        have H := H1
                        clear H1
                        obtain ⟨ji22, hji22⟩ : ∃ j_ : Int, (wrap64 ((t186.size : Int) - 1)) = j_ := ⟨_, rfl⟩
                        replace H : (if 0 ≤ (ji22) then (if (ji22) < (t186.size : Int) then ((chars_Blank.f (bt t186 (ji22))).bind fun t190 => (letterboxlaw01_CharsTrims.j2 k2 a0 t186 x7_2 t190)) else (none)) else (none)) = some r := by first | (rw [hji22] at H; exact H) | (simp only [hji22] at H ⊢; exact H)
                        (try rw [hji22] at A20)
                        have hji22w : (IntKind.i64.wrap ((t186.size : Int) - 1)) = ji22 := (i64_w _).trans hji22
                        by_cases c23 : 0 ≤ (ji22)
                        · rw [if_pos c23] at H
                          have c23b0 : decide (0 ≤ (ji22)) = true := decide_eq_true c23
                          clear c23
                          by_cases c24 : (ji22) < (t186.size : Int)
                          · rw [if_pos c24] at H
                            have c24b0 : decide ((ji22) < (t186.size : Int)) = true := decide_eq_true c24
                            clear c24
                            replace H := Option.bind_eq_some_iff.mp H
                            obtain ⟨t190, A260, H⟩ := H
                            replace H : (letterboxlaw01_CharsTrims.j2 k2 a0 t186 x7_2 t190) = some r := H
                            have A26 := Aside0.mk A260
                            clear A260
                            have H' := Aside0.mk H
                            clear H
                            have p19 : 0 ≤ (0 : Int) := (by omega)
                            have q19 : 0 < t186.size := (by have : (0 : Int) < (t186.size : Int) := of_decide_eq_true (by first | (with_reducible assumption) | assumption); omega)
                            have hx19 : ∀ h : 0 < t186.size, ((t186[0]'h).toNat : Int) = bt t186 0 := bt_at t186 0
                            clear p19
                            have qi19 : (0 < (t186.size : Int)) = True := eq_true (of_decide_eq_true (by first | (with_reducible assumption) | assumption))
                            replace q19 := eq_true q19
                            go_wp2_with (first | (go_at_call 22; (with_reducible refine (chars_Blank.calls (bt t186 0) false _ A20.out).mono ?_); rintro e w' ⟨rfl, ⟨nd, rfl⟩⟩; (try first | exact ⟨rfl, _, World.drewN_drewN _ _ _⟩ | exact ⟨rfl, _, Eq.trans (World.drewN_drewN _ _ _) (congrArg (World.drewN _) (Nat.add_assoc _ _ _))⟩); have p25 : 0 ≤ ((ji22) : Int) := of_decide_eq_true (by first | (with_reducible assumption) | assumption); have q25 : (ji22) < (t186.size : Int) := of_decide_eq_true (by first | (with_reducible assumption) | assumption); have hx25 := bt_at t186 (ji22); replace p25 := eq_true p25; replace q25 := eq_true q25) | (go_at_call 22; (with_reducible refine (chars_Blank.calls (bt t186 (ji22)) t190 _ A26.out).mono ?_); rintro e w' ⟨rfl, ⟨nd, rfl⟩⟩; (try first | exact ⟨rfl, _, World.drewN_drewN _ _ _⟩ | exact ⟨rfl, _, Eq.trans (World.drewN_drewN _ _ _) (congrArg (World.drewN _) (Nat.add_assoc _ _ _))⟩)))
                            repeat (go_quiet (first | (go_at_call 22; (with_reducible refine (chars_Blank.calls (bt t186 0) false _ A20.out).mono ?_); rintro e w' ⟨rfl, ⟨nd, rfl⟩⟩; (try first | exact ⟨rfl, _, World.drewN_drewN _ _ _⟩ | exact ⟨rfl, _, Eq.trans (World.drewN_drewN _ _ _) (congrArg (World.drewN _) (Nat.add_assoc _ _ _))⟩); have p25 : 0 ≤ ((ji22) : Int) := of_decide_eq_true (by first | (with_reducible assumption) | assumption); have q25 : (ji22) < (t186.size : Int) := of_decide_eq_true (by first | (with_reducible assumption) | assumption); have hx25 := bt_at t186 (ji22); replace p25 := eq_true p25; replace q25 := eq_true q25) | (go_at_call 22; (with_reducible refine (chars_Blank.calls (bt t186 (ji22)) t190 _ A26.out).mono ?_); rintro e w' ⟨rfl, ⟨nd, rfl⟩⟩; (try first | exact ⟨rfl, _, World.drewN_drewN _ _ _⟩ | exact ⟨rfl, _, Eq.trans (World.drewN_drewN _ _ _) (congrArg (World.drewN _) (Nat.add_assoc _ _ _))⟩))); try go_wp2_with (first | (go_at_call 22; (with_reducible refine (chars_Blank.calls (bt t186 0) false _ A20.out).mono ?_); rintro e w' ⟨rfl, ⟨nd, rfl⟩⟩; (try first | exact ⟨rfl, _, World.drewN_drewN _ _ _⟩ | exact ⟨rfl, _, Eq.trans (World.drewN_drewN _ _ _) (congrArg (World.drewN _) (Nat.add_assoc _ _ _))⟩); have p25 : 0 ≤ ((ji22) : Int) := of_decide_eq_true (by first | (with_reducible assumption) | assumption); have q25 : (ji22) < (t186.size : Int) := of_decide_eq_true (by first | (with_reducible assumption) | assumption); have hx25 := bt_at t186 (ji22); replace p25 := eq_true p25; replace q25 := eq_true q25) | (go_at_call 22; (with_reducible refine (chars_Blank.calls (bt t186 (ji22)) t190 _ A26.out).mono ?_); rintro e w' ⟨rfl, ⟨nd, rfl⟩⟩; (try first | exact ⟨rfl, _, World.drewN_drewN _ _ _⟩ | exact ⟨rfl, _, Eq.trans (World.drewN_drewN _ _ _) (congrArg (World.drewN _) (Nat.add_assoc _ _ _))⟩))))
                            go_meet
                            case rel => exact ⟨_, (t190), (by first | rfl | (simp; done) | (simp [*]; done)), (by first | exact H' | (rw [hji22]; exact H')), ⟨by have := HJ4.out; have := HK2.out; first | omega | exact Nat.le_refl _⟩, ⟨by repeat (first | (with_reducible first | exact HB.out | apply below_alloc | apply pw_below_drewN | apply below_drew1) | exact HB.out)⟩⟩
                          · rw [if_neg c24] at H
                            exact absurd H (by simp)
                        · rw [if_neg c23] at H
                          exact absurd H (by simp)
                    · rw [if_neg c18] at H
                      exact absurd H (by simp)
                  · rw [if_neg c17] at H
                    have c17b0 : decide (0 < (t186.size : Int)) = false := decide_eq_false c17
                    have c17b1 : decide (0 < t186.size) = false := decide_eq_false (by omega)
                    clear c17
                    (first | rw [c17b0] | (simp only [i64_w, i32_w]; rw [c17b0]) | skip)
                    have H' := Aside0.mk H
                    clear H
                    go_wp2
                    repeat (go_quiet (fail); try go_wp2)
                    go_meet
                    case rel => exact ⟨_, (false), (by first | rfl | (simp; done) | (simp [*]; done)), (by first | exact H' | (rw [hji22]; exact H')), ⟨by have := HJ4.out; have := HK2.out; first | omega | exact Nat.le_refl _⟩, ⟨by repeat (first | (with_reducible first | exact HB.out | apply below_alloc | apply pw_below_drewN | apply below_drew1) | exact HB.out)⟩⟩
                case rest =>
                  clear HC16
                  try clear c1
                  try clear p1
                  try clear q1
                  try clear hx1
                  try clear qi1
                  try clear c2
                  try clear p2
                  try clear q2
                  try clear hx2
                  try clear c4
                  try clear p6
                  try clear c7
                  try clear c7b0
                  try clear c7b1
                  try clear c8
                  try clear c10
                  try clear c10b0
                  try clear c11
                  try clear c11b0
                  try clear c12
                  try clear c12b0
                  try clear c12b1
                  try clear c13
                  try clear c13b0
                  try clear c13b1
                  try clear c14
                  try clear c14b0
                  try clear c14b1
                  try clear c15
                  try clear c15b0
                  try clear c15b1
                  try clear c15b2
                  try clear c17
                  try clear c17b0
                  try clear c17b1
                  try clear c18
                  try clear c18b0
                  try clear c18b1
                  try clear p18
                  try clear q18
                  try clear hx18
                  try clear p19
                  try clear q19
                  try clear hx19
                  try clear qi19
                  try clear c21
                  try clear c23
                  try clear c23b0
                  try clear c24
                  try clear c24b0
                  try clear p25
                  try clear q25
                  try clear hx25
                  try clear hx187_0
                  try clear hx188_0
                  try clear p187
                  try clear p188
                  try clear p19
                  try clear p2
                  try clear p25
                  try clear q187
                  try clear q188
                  try clear q19
                  try clear q25
                  obtain ⟨kq, x57_15, rfl, HA, HJ15, HB⟩ := hcut
                  cases kq with
                  | zero => exact absurd HA.out (by simp [letterboxlaw01_CharsTrims.j2])
                  | succ kj15 =>
                    have H := HA.out
                    clear HA
                    simp only [letterboxlaw01_CharsTrims.j2] at H
                    by_cases c27 : x57_15 = true
                    · subst c27
                      have H1 : (some false) = some r := by rw [if_pos rfl] at H; exact H
                      clear H
                      have H := H1
                      clear H1
                      obtain rfl := Option.some.inj H
                      go_wp2
                      repeat (go_quiet (fail); try go_wp2)
                      go_ret
                      exact ⟨by first | rfl | (simp [errW_none, errW_some] <;> rfl) | (simp [*, errW_none, errW_some] <;> rfl), by repeat (first | (with_reducible first | exact HB.out | apply below_alloc | apply pw_below_drewN | apply below_drew1) | exact HB.out)⟩
                    · replace c27 := Bool.eq_false_iff.mpr c27
                      subst c27
                      have H1 : (if x7_2.size + a0.size ≤ 9223372036854775807 then ((chars_Trim.f kj15 (x7_2 ++ a0)).bind fun t191 => (if t191.toList = t186.toList then (if a0.size + x7_2.size ≤ 9223372036854775807 then ((chars_Trim.f kj15 (a0 ++ x7_2)).bind fun t192 => (if t192.toList = t186.toList then ((chars_Trim.f kj15 t186).bind fun t193 => (if t193.toList = t186.toList then ((chars_Trim.f kj15 x7_2).bind fun t194 => (some (t194.toList == ([] : List UInt8)))) else (some false))) else (some false))) else (none)) else (some false))) else (none)) = some r := by rw [if_neg (show ¬ (false = true) by decide)] at H; exact H
                      clear H
                      have H := H1
                      clear H1
                      by_cases c28 : x7_2.size + a0.size ≤ 9223372036854775807
                      · rw [if_pos c28] at H
                        have c28b0 := eq_true c28
                        have c28b1 : decide (x7_2.size + a0.size ≤ 9223372036854775807) = true := decide_eq_true c28
                        try have c28b2 : (9223372036854775807 < x7_2.size + a0.size) = False := eq_false (Nat.not_lt.2 c28)
                        replace H := Option.bind_eq_some_iff.mp H
                        obtain ⟨t191, A290, H⟩ := H
                        replace H : (if t191.toList = t186.toList then (if a0.size + x7_2.size ≤ 9223372036854775807 then ((chars_Trim.f kj15 (a0 ++ x7_2)).bind fun t192 => (if t192.toList = t186.toList then ((chars_Trim.f kj15 t186).bind fun t193 => (if t193.toList = t186.toList then ((chars_Trim.f kj15 x7_2).bind fun t194 => (some (t194.toList == ([] : List UInt8)))) else (some false))) else (some false))) else (none)) else (some false)) = some r := H
                        have A29 := Aside0.mk A290
                        clear A290
                        by_cases c30 : t191.toList = t186.toList
                        · rw [if_pos c30] at H
                          have c30b0 : (t191.toList == t186.toList) = true := beq_iff_eq.mpr c30
                          have c30b1 : (t191.toList != t186.toList) = false := bne_eq_false_iff_eq.mpr c30
                          clear c30
                          by_cases c31 : a0.size + x7_2.size ≤ 9223372036854775807
                          · rw [if_pos c31] at H
                            have c31b0 := eq_true c31
                            have c31b1 : decide (a0.size + x7_2.size ≤ 9223372036854775807) = true := decide_eq_true c31
                            try have c31b2 : (9223372036854775807 < a0.size + x7_2.size) = False := eq_false (Nat.not_lt.2 c31)
                            replace H := Option.bind_eq_some_iff.mp H
                            obtain ⟨t192, A320, H⟩ := H
                            replace H : (if t192.toList = t186.toList then ((chars_Trim.f kj15 t186).bind fun t193 => (if t193.toList = t186.toList then ((chars_Trim.f kj15 x7_2).bind fun t194 => (some (t194.toList == ([] : List UInt8)))) else (some false))) else (some false)) = some r := H
                            have A32 := Aside0.mk A320
                            clear A320
                            by_cases c33 : t192.toList = t186.toList
                            · rw [if_pos c33] at H
                              have c33b0 : (t192.toList == t186.toList) = true := beq_iff_eq.mpr c33
                              have c33b1 : (t192.toList != t186.toList) = false := bne_eq_false_iff_eq.mpr c33
                              clear c33
                              replace H := Option.bind_eq_some_iff.mp H
                              obtain ⟨t193, A340, H⟩ := H
                              replace H : (if t193.toList = t186.toList then ((chars_Trim.f kj15 x7_2).bind fun t194 => (some (t194.toList == ([] : List UInt8)))) else (some false)) = some r := H
                              have A34 := Aside0.mk A340
                              clear A340
                              by_cases c35 : t193.toList = t186.toList
                              · rw [if_pos c35] at H
                                have c35b0 : (t193.toList == t186.toList) = true := beq_iff_eq.mpr c35
                                have c35b1 : (t193.toList != t186.toList) = false := bne_eq_false_iff_eq.mpr c35
                                clear c35
                                replace H := Option.bind_eq_some_iff.mp H
                                obtain ⟨t194, A360, H⟩ := H
                                replace H : (some (t194.toList == ([] : List UInt8))) = some r := H
                                have A36 := Aside0.mk A360
                                clear A360
                                obtain rfl := Option.some.inj H
                                go_wp2_with (first | (go_at_call 26; (with_reducible refine (chars_Trim.calls kj15 (x7_2 ++ a0) t191 _ A29.out).mono ?_); rintro e w' ⟨rfl, ⟨nd, rfl⟩⟩; (try first | exact ⟨rfl, _, World.drewN_drewN _ _ _⟩ | exact ⟨rfl, _, Eq.trans (World.drewN_drewN _ _ _) (congrArg (World.drewN _) (Nat.add_assoc _ _ _))⟩)) | (go_at_call 26; (with_reducible refine (chars_Trim.calls kj15 (a0 ++ x7_2) t192 _ A32.out).mono ?_); rintro e w' ⟨rfl, ⟨nd, rfl⟩⟩; (try first | exact ⟨rfl, _, World.drewN_drewN _ _ _⟩ | exact ⟨rfl, _, Eq.trans (World.drewN_drewN _ _ _) (congrArg (World.drewN _) (Nat.add_assoc _ _ _))⟩)) | (go_at_call 26; (with_reducible refine (chars_Trim.calls kj15 t186 t193 _ A34.out).mono ?_); rintro e w' ⟨rfl, ⟨nd, rfl⟩⟩; (try first | exact ⟨rfl, _, World.drewN_drewN _ _ _⟩ | exact ⟨rfl, _, Eq.trans (World.drewN_drewN _ _ _) (congrArg (World.drewN _) (Nat.add_assoc _ _ _))⟩)) | (go_at_call 26; (with_reducible refine (chars_Trim.calls kj15 x7_2 t194 _ A36.out).mono ?_); rintro e w' ⟨rfl, ⟨nd, rfl⟩⟩; (try first | exact ⟨rfl, _, World.drewN_drewN _ _ _⟩ | exact ⟨rfl, _, Eq.trans (World.drewN_drewN _ _ _) (congrArg (World.drewN _) (Nat.add_assoc _ _ _))⟩)))
                                repeat (go_quiet (first | (go_at_call 26; (with_reducible refine (chars_Trim.calls kj15 (x7_2 ++ a0) t191 _ A29.out).mono ?_); rintro e w' ⟨rfl, ⟨nd, rfl⟩⟩; (try first | exact ⟨rfl, _, World.drewN_drewN _ _ _⟩ | exact ⟨rfl, _, Eq.trans (World.drewN_drewN _ _ _) (congrArg (World.drewN _) (Nat.add_assoc _ _ _))⟩)) | (go_at_call 26; (with_reducible refine (chars_Trim.calls kj15 (a0 ++ x7_2) t192 _ A32.out).mono ?_); rintro e w' ⟨rfl, ⟨nd, rfl⟩⟩; (try first | exact ⟨rfl, _, World.drewN_drewN _ _ _⟩ | exact ⟨rfl, _, Eq.trans (World.drewN_drewN _ _ _) (congrArg (World.drewN _) (Nat.add_assoc _ _ _))⟩)) | (go_at_call 26; (with_reducible refine (chars_Trim.calls kj15 t186 t193 _ A34.out).mono ?_); rintro e w' ⟨rfl, ⟨nd, rfl⟩⟩; (try first | exact ⟨rfl, _, World.drewN_drewN _ _ _⟩ | exact ⟨rfl, _, Eq.trans (World.drewN_drewN _ _ _) (congrArg (World.drewN _) (Nat.add_assoc _ _ _))⟩)) | (go_at_call 26; (with_reducible refine (chars_Trim.calls kj15 x7_2 t194 _ A36.out).mono ?_); rintro e w' ⟨rfl, ⟨nd, rfl⟩⟩; (try first | exact ⟨rfl, _, World.drewN_drewN _ _ _⟩ | exact ⟨rfl, _, Eq.trans (World.drewN_drewN _ _ _) (congrArg (World.drewN _) (Nat.add_assoc _ _ _))⟩))); try go_wp2_with (first | (go_at_call 26; (with_reducible refine (chars_Trim.calls kj15 (x7_2 ++ a0) t191 _ A29.out).mono ?_); rintro e w' ⟨rfl, ⟨nd, rfl⟩⟩; (try first | exact ⟨rfl, _, World.drewN_drewN _ _ _⟩ | exact ⟨rfl, _, Eq.trans (World.drewN_drewN _ _ _) (congrArg (World.drewN _) (Nat.add_assoc _ _ _))⟩)) | (go_at_call 26; (with_reducible refine (chars_Trim.calls kj15 (a0 ++ x7_2) t192 _ A32.out).mono ?_); rintro e w' ⟨rfl, ⟨nd, rfl⟩⟩; (try first | exact ⟨rfl, _, World.drewN_drewN _ _ _⟩ | exact ⟨rfl, _, Eq.trans (World.drewN_drewN _ _ _) (congrArg (World.drewN _) (Nat.add_assoc _ _ _))⟩)) | (go_at_call 26; (with_reducible refine (chars_Trim.calls kj15 t186 t193 _ A34.out).mono ?_); rintro e w' ⟨rfl, ⟨nd, rfl⟩⟩; (try first | exact ⟨rfl, _, World.drewN_drewN _ _ _⟩ | exact ⟨rfl, _, Eq.trans (World.drewN_drewN _ _ _) (congrArg (World.drewN _) (Nat.add_assoc _ _ _))⟩)) | (go_at_call 26; (with_reducible refine (chars_Trim.calls kj15 x7_2 t194 _ A36.out).mono ?_); rintro e w' ⟨rfl, ⟨nd, rfl⟩⟩; (try first | exact ⟨rfl, _, World.drewN_drewN _ _ _⟩ | exact ⟨rfl, _, Eq.trans (World.drewN_drewN _ _ _) (congrArg (World.drewN _) (Nat.add_assoc _ _ _))⟩))))
                                go_ret
                                exact ⟨by first | rfl | (simp [errW_none, errW_some] <;> rfl) | (simp [*, errW_none, errW_some] <;> rfl), by repeat (first | (with_reducible first | exact HB.out | apply below_alloc | apply pw_below_drewN | apply below_drew1) | exact HB.out)⟩
                              · rw [if_neg c35] at H
                                have c35b0 : (t193.toList == t186.toList) = false := beq_eq_false_iff_ne.mpr c35
                                have c35b1 : (t193.toList != t186.toList) = true := bne_iff_ne.mpr c35
                                obtain rfl := Option.some.inj H
                                go_wp2_with (first | (go_at_call 26; (with_reducible refine (chars_Trim.calls kj15 (x7_2 ++ a0) t191 _ A29.out).mono ?_); rintro e w' ⟨rfl, ⟨nd, rfl⟩⟩; (try first | exact ⟨rfl, _, World.drewN_drewN _ _ _⟩ | exact ⟨rfl, _, Eq.trans (World.drewN_drewN _ _ _) (congrArg (World.drewN _) (Nat.add_assoc _ _ _))⟩)) | (go_at_call 26; (with_reducible refine (chars_Trim.calls kj15 (a0 ++ x7_2) t192 _ A32.out).mono ?_); rintro e w' ⟨rfl, ⟨nd, rfl⟩⟩; (try first | exact ⟨rfl, _, World.drewN_drewN _ _ _⟩ | exact ⟨rfl, _, Eq.trans (World.drewN_drewN _ _ _) (congrArg (World.drewN _) (Nat.add_assoc _ _ _))⟩)) | (go_at_call 26; (with_reducible refine (chars_Trim.calls kj15 t186 t193 _ A34.out).mono ?_); rintro e w' ⟨rfl, ⟨nd, rfl⟩⟩; (try first | exact ⟨rfl, _, World.drewN_drewN _ _ _⟩ | exact ⟨rfl, _, Eq.trans (World.drewN_drewN _ _ _) (congrArg (World.drewN _) (Nat.add_assoc _ _ _))⟩)))
                                repeat (go_quiet (first | (go_at_call 26; (with_reducible refine (chars_Trim.calls kj15 (x7_2 ++ a0) t191 _ A29.out).mono ?_); rintro e w' ⟨rfl, ⟨nd, rfl⟩⟩; (try first | exact ⟨rfl, _, World.drewN_drewN _ _ _⟩ | exact ⟨rfl, _, Eq.trans (World.drewN_drewN _ _ _) (congrArg (World.drewN _) (Nat.add_assoc _ _ _))⟩)) | (go_at_call 26; (with_reducible refine (chars_Trim.calls kj15 (a0 ++ x7_2) t192 _ A32.out).mono ?_); rintro e w' ⟨rfl, ⟨nd, rfl⟩⟩; (try first | exact ⟨rfl, _, World.drewN_drewN _ _ _⟩ | exact ⟨rfl, _, Eq.trans (World.drewN_drewN _ _ _) (congrArg (World.drewN _) (Nat.add_assoc _ _ _))⟩)) | (go_at_call 26; (with_reducible refine (chars_Trim.calls kj15 t186 t193 _ A34.out).mono ?_); rintro e w' ⟨rfl, ⟨nd, rfl⟩⟩; (try first | exact ⟨rfl, _, World.drewN_drewN _ _ _⟩ | exact ⟨rfl, _, Eq.trans (World.drewN_drewN _ _ _) (congrArg (World.drewN _) (Nat.add_assoc _ _ _))⟩))); try go_wp2_with (first | (go_at_call 26; (with_reducible refine (chars_Trim.calls kj15 (x7_2 ++ a0) t191 _ A29.out).mono ?_); rintro e w' ⟨rfl, ⟨nd, rfl⟩⟩; (try first | exact ⟨rfl, _, World.drewN_drewN _ _ _⟩ | exact ⟨rfl, _, Eq.trans (World.drewN_drewN _ _ _) (congrArg (World.drewN _) (Nat.add_assoc _ _ _))⟩)) | (go_at_call 26; (with_reducible refine (chars_Trim.calls kj15 (a0 ++ x7_2) t192 _ A32.out).mono ?_); rintro e w' ⟨rfl, ⟨nd, rfl⟩⟩; (try first | exact ⟨rfl, _, World.drewN_drewN _ _ _⟩ | exact ⟨rfl, _, Eq.trans (World.drewN_drewN _ _ _) (congrArg (World.drewN _) (Nat.add_assoc _ _ _))⟩)) | (go_at_call 26; (with_reducible refine (chars_Trim.calls kj15 t186 t193 _ A34.out).mono ?_); rintro e w' ⟨rfl, ⟨nd, rfl⟩⟩; (try first | exact ⟨rfl, _, World.drewN_drewN _ _ _⟩ | exact ⟨rfl, _, Eq.trans (World.drewN_drewN _ _ _) (congrArg (World.drewN _) (Nat.add_assoc _ _ _))⟩))))
                                go_ret
                                exact ⟨by first | rfl | (simp [errW_none, errW_some] <;> rfl) | (simp [*, errW_none, errW_some] <;> rfl), by repeat (first | (with_reducible first | exact HB.out | apply below_alloc | apply pw_below_drewN | apply below_drew1) | exact HB.out)⟩
                            · rw [if_neg c33] at H
                              have c33b0 : (t192.toList == t186.toList) = false := beq_eq_false_iff_ne.mpr c33
                              have c33b1 : (t192.toList != t186.toList) = true := bne_iff_ne.mpr c33
                              obtain rfl := Option.some.inj H
                              go_wp2_with (first | (go_at_call 26; (with_reducible refine (chars_Trim.calls kj15 (x7_2 ++ a0) t191 _ A29.out).mono ?_); rintro e w' ⟨rfl, ⟨nd, rfl⟩⟩; (try first | exact ⟨rfl, _, World.drewN_drewN _ _ _⟩ | exact ⟨rfl, _, Eq.trans (World.drewN_drewN _ _ _) (congrArg (World.drewN _) (Nat.add_assoc _ _ _))⟩)) | (go_at_call 26; (with_reducible refine (chars_Trim.calls kj15 (a0 ++ x7_2) t192 _ A32.out).mono ?_); rintro e w' ⟨rfl, ⟨nd, rfl⟩⟩; (try first | exact ⟨rfl, _, World.drewN_drewN _ _ _⟩ | exact ⟨rfl, _, Eq.trans (World.drewN_drewN _ _ _) (congrArg (World.drewN _) (Nat.add_assoc _ _ _))⟩)))
                              repeat (go_quiet (first | (go_at_call 26; (with_reducible refine (chars_Trim.calls kj15 (x7_2 ++ a0) t191 _ A29.out).mono ?_); rintro e w' ⟨rfl, ⟨nd, rfl⟩⟩; (try first | exact ⟨rfl, _, World.drewN_drewN _ _ _⟩ | exact ⟨rfl, _, Eq.trans (World.drewN_drewN _ _ _) (congrArg (World.drewN _) (Nat.add_assoc _ _ _))⟩)) | (go_at_call 26; (with_reducible refine (chars_Trim.calls kj15 (a0 ++ x7_2) t192 _ A32.out).mono ?_); rintro e w' ⟨rfl, ⟨nd, rfl⟩⟩; (try first | exact ⟨rfl, _, World.drewN_drewN _ _ _⟩ | exact ⟨rfl, _, Eq.trans (World.drewN_drewN _ _ _) (congrArg (World.drewN _) (Nat.add_assoc _ _ _))⟩))); try go_wp2_with (first | (go_at_call 26; (with_reducible refine (chars_Trim.calls kj15 (x7_2 ++ a0) t191 _ A29.out).mono ?_); rintro e w' ⟨rfl, ⟨nd, rfl⟩⟩; (try first | exact ⟨rfl, _, World.drewN_drewN _ _ _⟩ | exact ⟨rfl, _, Eq.trans (World.drewN_drewN _ _ _) (congrArg (World.drewN _) (Nat.add_assoc _ _ _))⟩)) | (go_at_call 26; (with_reducible refine (chars_Trim.calls kj15 (a0 ++ x7_2) t192 _ A32.out).mono ?_); rintro e w' ⟨rfl, ⟨nd, rfl⟩⟩; (try first | exact ⟨rfl, _, World.drewN_drewN _ _ _⟩ | exact ⟨rfl, _, Eq.trans (World.drewN_drewN _ _ _) (congrArg (World.drewN _) (Nat.add_assoc _ _ _))⟩))))
                              go_ret
                              exact ⟨by first | rfl | (simp [errW_none, errW_some] <;> rfl) | (simp [*, errW_none, errW_some] <;> rfl), by repeat (first | (with_reducible first | exact HB.out | apply below_alloc | apply pw_below_drewN | apply below_drew1) | exact HB.out)⟩
                          · rw [if_neg c31] at H
                            exact absurd H (by simp)
                        · rw [if_neg c30] at H
                          have c30b0 : (t191.toList == t186.toList) = false := beq_eq_false_iff_ne.mpr c30
                          have c30b1 : (t191.toList != t186.toList) = true := bne_iff_ne.mpr c30
                          obtain rfl := Option.some.inj H
                          go_wp2_with (first | (go_at_call 26; (with_reducible refine (chars_Trim.calls kj15 (x7_2 ++ a0) t191 _ A29.out).mono ?_); rintro e w' ⟨rfl, ⟨nd, rfl⟩⟩; (try first | exact ⟨rfl, _, World.drewN_drewN _ _ _⟩ | exact ⟨rfl, _, Eq.trans (World.drewN_drewN _ _ _) (congrArg (World.drewN _) (Nat.add_assoc _ _ _))⟩)))
                          repeat (go_quiet (first | (go_at_call 26; (with_reducible refine (chars_Trim.calls kj15 (x7_2 ++ a0) t191 _ A29.out).mono ?_); rintro e w' ⟨rfl, ⟨nd, rfl⟩⟩; (try first | exact ⟨rfl, _, World.drewN_drewN _ _ _⟩ | exact ⟨rfl, _, Eq.trans (World.drewN_drewN _ _ _) (congrArg (World.drewN _) (Nat.add_assoc _ _ _))⟩))); try go_wp2_with (first | (go_at_call 26; (with_reducible refine (chars_Trim.calls kj15 (x7_2 ++ a0) t191 _ A29.out).mono ?_); rintro e w' ⟨rfl, ⟨nd, rfl⟩⟩; (try first | exact ⟨rfl, _, World.drewN_drewN _ _ _⟩ | exact ⟨rfl, _, Eq.trans (World.drewN_drewN _ _ _) (congrArg (World.drewN _) (Nat.add_assoc _ _ _))⟩))))
                          go_ret
                          exact ⟨by first | rfl | (simp [errW_none, errW_some] <;> rfl) | (simp [*, errW_none, errW_some] <;> rfl), by repeat (first | (with_reducible first | exact HB.out | apply below_alloc | apply pw_below_drewN | apply below_drew1) | exact HB.out)⟩
                      · rw [if_neg c28] at H
                        exact absurd H (by simp)
  · replace c4 := Bool.eq_false_iff.mpr c4
    subst c4
    have H1 : (some false) = some r := by rw [if_neg (show ¬ (false = true) by decide)] at H; exact H
    clear H
    have H := H1
    clear H1
    obtain rfl := Option.some.inj H
    go_enter Try.func8, Try.ntmps8
    go_wp2_with (first | (go_at_call 9; (with_reducible refine (letterboxlaw01_awake.calls k  false _ A3.out).mono ?_); rintro e w37 ⟨rfl, hb⟩; have n0_ := Aside0.mk (below_step (by repeat (first | (with_reducible first | exact HB.out | apply below_alloc | apply pw_below_drewN | apply below_drew1) | exact HB.out)) hb); clear HB; have HB := n0_; clear n0_; (try clear hb); (try clear hb2); (try clear hk); (try clear hi)))
    repeat (go_quiet (first | (go_at_call 9; (with_reducible refine (letterboxlaw01_awake.calls k  false _ A3.out).mono ?_); rintro e w37 ⟨rfl, hb⟩; have n0_ := Aside0.mk (below_step (by repeat (first | (with_reducible first | exact HB.out | apply below_alloc | apply pw_below_drewN | apply below_drew1) | exact HB.out)) hb); clear HB; have HB := n0_; clear n0_; (try clear hb); (try clear hb2); (try clear hk); (try clear hi))); try go_wp2_with (first | (go_at_call 9; (with_reducible refine (letterboxlaw01_awake.calls k  false _ A3.out).mono ?_); rintro e w37 ⟨rfl, hb⟩; have n0_ := Aside0.mk (below_step (by repeat (first | (with_reducible first | exact HB.out | apply below_alloc | apply pw_below_drewN | apply below_drew1) | exact HB.out)) hb); clear HB; have HB := n0_; clear n0_; (try clear hb); (try clear hb2); (try clear hk); (try clear hi))))
    go_ret
    exact ⟨by first | rfl | (simp [errW_none, errW_some] <;> rfl) | (simp [*, errW_none, errW_some] <;> rfl), by repeat (first | (with_reducible first | exact HB.out | apply below_alloc | apply pw_below_drewN | apply below_drew1) | exact HB.out)⟩

/-- THE ONE PURE STATEMENT of letterboxlaw01_CharsTrims: yours. -/
def letterboxlaw01_CharsTrims.Pure : Prop := ∀ (a0 : ByteArray) (l1 : List Int), a0.size ≤ 140737488351232 → l1.length ≤ maxLen → l1.length * 1 ≤ 140737488351232 → (∀ x ∈ l1, (Lit.int .u8 x).wf = true) → ∃ k, letterboxlaw01_CharsTrims.f k a0 l1 = some true
theorem letterboxlaw01_CharsTrims.walk (P : letterboxlaw01_CharsTrims.Pure) (a0 : ByteArray) (a1 : Option Addr) (len1 cap1 : Nat) (z1 : List Int) (w : World) (w0 : a0.size ≤ 140737488351232) (w1 : (a1 = none ∧ len1 = 0 ∧ cap1 = 0 ∧ z1 = []) ∨ ∃ x, a1 = some x ∧ len1 ≤ cap1 ∧ cap1 ≤ maxLen ∧ z1.length = cap1 ∧ (∀ i, i < z1.length → w.cell? (x.add i) = some (.int .u8 (z1.getD i 0))) ∧ ∀ n ∈ z1, (Lit.int .u8 n).wf = true) (y1 : len1 * 1 ≤ 140737488351232) :
    Calls Try.prog 8 #[.string a0, .slice a1 len1 cap1] w fun e w' => e = .returned (.bool true) ∧ Below w.heap.size w w' := by
  obtain ⟨l1, rfl, hr1, hm1, hw1, hc1⟩ := ReadsInt.ofRowC w1
  obtain ⟨k, h⟩ := P a0 l1 w0 hm1 y1 hw1
  refine (letterboxlaw01_CharsTrims.calls k a0 _ _ l1 true w (Kd.C_of_reads (d := (0 : Int)) (h1 := fun _ => rfl) hr1) hc1 h).mono ?_
  rintro e w' ⟨rfl, hd⟩
  exact ⟨rfl, hd⟩

end Go.Proofs.Ytannphcahjchjaa.P
