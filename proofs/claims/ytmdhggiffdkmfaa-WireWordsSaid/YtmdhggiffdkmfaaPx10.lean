-- Written by a program of this session (wip/tools/mk.sh) for this claim: it runs the kit's print with contracts of our own. Lean checks it.
import Derived.Test.YtmdhggiffdkmfaaPx0
import Derived.Test.YtmdhggiffdkmfaaZStr
import Derived.Test.YtmdhggiffdkmfaaPx5
import Derived.Test.YtmdhggiffdkmfaaPx6
import Derived.Test.YtmdhggiffdkmfaaPx8
namespace Go.Proofs.Ytmdhggiffdkmfaa.P
open Go.RowKit Go.Proofs.YtmdhggiffdkmfaaW.PrintWords Go.Proofs.YtmdhggiffdkmfaaW.PrintLast Go.Proofs.YtmdhggiffdkmfaaW.PrintMore
attribute [-simp] Int.tmod_tmod_of_dvd
attribute [local go_sem] max2_int min2_int max_two min_two max_three min_three max_four min_four   -- for this text's walks alone
set_option linter.unusedVariables false
set_option linter.unusedSimpArgs false

/-! ### letterboxlaw18_WireWords: function 6 -/
mutual
def letterboxlaw18_WireWords.j0 : Nat → List ByteArray → Bool → Option (Bool)
  | 0, _, _ => none
  | k + 1, x0, x19 => if x19 = true then (some true) else (letterboxlaw18_WireWords.l0 k x0 (⟨#[]⟩ : ByteArray) 0)
def letterboxlaw18_WireWords.l0 : Nat → List ByteArray → ByteArray → Int → Option (Bool)
  | 0, _, _, _ => none
  | k + 1, x0, x4, x5 => if x5 < (x0.length : Int) then (if 0 ≤ x5 then (if ((rdOf ByteArray.empty x0 x5).size : Int) > 60 then (some true) else (if x5 > 0 then (if x4.size + 1 ≤ 9223372036854775807 then ((wire_Astring.f k (rdOf ByteArray.empty x0 x5)).bind fun t250 => (if (x4 ++ (⟨#[32]⟩ : ByteArray)).size + t250.size ≤ 9223372036854775807 then (letterboxlaw18_WireWords.l0 k x0 ((x4 ++ (⟨#[32]⟩ : ByteArray)) ++ t250) (wrap64 (x5 + 1))) else (none))) else (none)) else ((wire_Astring.f k (rdOf ByteArray.empty x0 x5)).bind fun t252 => (if x4.size + t252.size ≤ 9223372036854775807 then (letterboxlaw18_WireWords.l0 k x0 (x4 ++ t252) (wrap64 (x5 + 1))) else (none))))) else (none)) else (if 1 + x4.size ≤ 9223372036854775807 then (if ((⟨#[40]⟩ : ByteArray) ++ x4).size + 1 ≤ 9223372036854775807 then (if (((⟨#[40]⟩ : ByteArray) ++ x4) ++ (⟨#[41]⟩ : ByteArray)).size ≤ 9223372036854775807 then ((wire_Tokens.f k (bytesOf (((⟨#[40]⟩ : ByteArray) ++ x4) ++ (⟨#[41]⟩ : ByteArray)))).bind fun bt256 => (if bt256.2 = 0 then (if (bt256.1.length : Int) = (wrap64 ((wrap64 (2 * (x0.length : Int))) + 1)) then (if 0 < (bt256.1.length : Int) then (if ((rd_T43 bt256.1 0).f0) = 3 then (if 0 ≤ (wrap64 ((bt256.1.length : Int) - 1)) then (if (wrap64 ((bt256.1.length : Int) - 1)) < (bt256.1.length : Int) then (letterboxlaw18_WireWords.j2 k x0 bt256.1 (((rd_T43 bt256.1 (wrap64 ((bt256.1.length : Int) - 1))).f0) != 4)) else (none)) else (none)) else (letterboxlaw18_WireWords.j2 k x0 bt256.1 true)) else (none)) else (letterboxlaw18_WireWords.j2 k x0 bt256.1 true)) else (letterboxlaw18_WireWords.j2 k x0 bt256.1 true))) else (none)) else (none)) else (none))
def letterboxlaw18_WireWords.j2 : Nat → List ByteArray → List (S43) → Bool → Option (Bool)
  | 0, _, _, _ => none
  | k + 1, x0, x6, x78 => if x78 = true then (some false) else (letterboxlaw18_WireWords.l1 k x0 x6 0)
def letterboxlaw18_WireWords.l1 : Nat → List ByteArray → List (S43) → Int → Option (Bool)
  | 0, _, _, _ => none
  | k + 1, x0, x6, x8 => if x8 < (x0.length : Int) then (if 0 ≤ (wrap64 ((wrap64 (2 * x8)) + 1)) then (if (wrap64 ((wrap64 (2 * x8)) + 1)) < (x6.length : Int) then (if 0 ≤ x8 then (if ((rd_T43 x6 (wrap64 ((wrap64 (2 * x8)) + 1))).f1).toList = (rdOf ByteArray.empty x0 x8).toList then (if ((rd_T43 x6 (wrap64 ((wrap64 (2 * x8)) + 1))).f0) = 1 then (letterboxlaw18_WireWords.l1 k x0 x6 (wrap64 (x8 + 1))) else (if ((rd_T43 x6 (wrap64 ((wrap64 (2 * x8)) + 1))).f0) = 2 then (letterboxlaw18_WireWords.l1 k x0 x6 (wrap64 (x8 + 1))) else (some false))) else (some false)) else (none)) else (none)) else (none)) else (some true)
end
def letterboxlaw18_WireWords.f (k : Nat) (l0 : List ByteArray) : Option (Bool) := (letterboxlaw18_awake.f).bind fun t247 => (if t247 = true then (if (l0.length : Int) = 0 then (letterboxlaw18_WireWords.j0 k l0 true) else (letterboxlaw18_WireWords.j0 k l0 (decide ((l0.length : Int) > 10)))) else (some false))
theorem letterboxlaw18_WireWords.mono_l : ∀ k, (∀ y0 y1, LeO (letterboxlaw18_WireWords.j0 k y0 y1) (letterboxlaw18_WireWords.j0 (k + 1) y0 y1)) ∧ (∀ y0 y1 y2, LeO (letterboxlaw18_WireWords.l0 k y0 y1 y2) (letterboxlaw18_WireWords.l0 (k + 1) y0 y1 y2)) ∧ (∀ y0 y1 y2, LeO (letterboxlaw18_WireWords.j2 k y0 y1 y2) (letterboxlaw18_WireWords.j2 (k + 1) y0 y1 y2)) ∧ (∀ y0 y1 y2, LeO (letterboxlaw18_WireWords.l1 k y0 y1 y2) (letterboxlaw18_WireWords.l1 (k + 1) y0 y1 y2))
  | 0 => ⟨fun _ _ r h => by simp [letterboxlaw18_WireWords.j0] at h, fun _ _ _ r h => by simp [letterboxlaw18_WireWords.l0] at h, fun _ _ _ r h => by simp [letterboxlaw18_WireWords.j2] at h, fun _ _ _ r h => by simp [letterboxlaw18_WireWords.l1] at h⟩
  | k + 1 => by
    obtain ⟨ih0, ih1, ih2, ih3⟩ := letterboxlaw18_WireWords.mono_l k
    refine ⟨?_, ?_, ?_, ?_⟩
    · intro y0 y1
      unfold letterboxlaw18_WireWords.j0
      repeat' first
      | (with_reducible exact ih0 _ _)
      | (with_reducible exact ih1 _ _ _)
      | (with_reducible exact ih2 _ _ _)
      | (with_reducible exact ih3 _ _ _)
      | (with_reducible exact wire_Astring.mono _ _)
      | (with_reducible exact wire_Tokens.mono _ _)
      | (with_reducible exact LeO.refl _)
      | (with_reducible exact LeO.none _)
      | (with_reducible refine LeO.ite ?_ ?_)
      | (with_reducible refine LeO.bind ?_ (fun _ => ?_))
      | exact ih0 _ _
      | exact ih1 _ _ _
      | exact ih2 _ _ _
      | exact ih3 _ _ _
      | exact wire_Astring.mono _ _
      | exact wire_Tokens.mono _ _
      | exact LeO.none _
      | refine LeO.ite ?_ ?_
      | refine LeO.bind ?_ (fun _ => ?_)
    · intro y0 y1 y2
      unfold letterboxlaw18_WireWords.l0
      repeat' first
      | (with_reducible exact ih0 _ _)
      | (with_reducible exact ih1 _ _ _)
      | (with_reducible exact ih2 _ _ _)
      | (with_reducible exact ih3 _ _ _)
      | (with_reducible exact wire_Astring.mono _ _)
      | (with_reducible exact wire_Tokens.mono _ _)
      | (with_reducible exact LeO.refl _)
      | (with_reducible exact LeO.none _)
      | (with_reducible refine LeO.ite ?_ ?_)
      | (with_reducible refine LeO.bind ?_ (fun _ => ?_))
      | exact ih0 _ _
      | exact ih1 _ _ _
      | exact ih2 _ _ _
      | exact ih3 _ _ _
      | exact wire_Astring.mono _ _
      | exact wire_Tokens.mono _ _
      | exact LeO.none _
      | refine LeO.ite ?_ ?_
      | refine LeO.bind ?_ (fun _ => ?_)
    · intro y0 y1 y2
      unfold letterboxlaw18_WireWords.j2
      repeat' first
      | (with_reducible exact ih0 _ _)
      | (with_reducible exact ih1 _ _ _)
      | (with_reducible exact ih2 _ _ _)
      | (with_reducible exact ih3 _ _ _)
      | (with_reducible exact wire_Astring.mono _ _)
      | (with_reducible exact wire_Tokens.mono _ _)
      | (with_reducible exact LeO.refl _)
      | (with_reducible exact LeO.none _)
      | (with_reducible refine LeO.ite ?_ ?_)
      | (with_reducible refine LeO.bind ?_ (fun _ => ?_))
      | exact ih0 _ _
      | exact ih1 _ _ _
      | exact ih2 _ _ _
      | exact ih3 _ _ _
      | exact wire_Astring.mono _ _
      | exact wire_Tokens.mono _ _
      | exact LeO.none _
      | refine LeO.ite ?_ ?_
      | refine LeO.bind ?_ (fun _ => ?_)
    · intro y0 y1 y2
      unfold letterboxlaw18_WireWords.l1
      repeat' first
      | (with_reducible exact ih0 _ _)
      | (with_reducible exact ih1 _ _ _)
      | (with_reducible exact ih2 _ _ _)
      | (with_reducible exact ih3 _ _ _)
      | (with_reducible exact wire_Astring.mono _ _)
      | (with_reducible exact wire_Tokens.mono _ _)
      | (with_reducible exact LeO.refl _)
      | (with_reducible exact LeO.none _)
      | (with_reducible refine LeO.ite ?_ ?_)
      | (with_reducible refine LeO.bind ?_ (fun _ => ?_))
      | exact ih0 _ _
      | exact ih1 _ _ _
      | exact ih2 _ _ _
      | exact ih3 _ _ _
      | exact wire_Astring.mono _ _
      | exact wire_Tokens.mono _ _
      | exact LeO.none _
      | refine LeO.ite ?_ ?_
      | refine LeO.bind ?_ (fun _ => ?_)
theorem letterboxlaw18_WireWords.mono : ∀ a0 k, LeO (letterboxlaw18_WireWords.f k a0) (letterboxlaw18_WireWords.f (k + 1) a0) := by
  intro a0 k
  obtain ⟨ih0, ih1, ih2, ih3⟩ := letterboxlaw18_WireWords.mono_l k
  unfold letterboxlaw18_WireWords.f
  repeat' first
      | (with_reducible exact ih0 _ _)
      | (with_reducible exact ih1 _ _ _)
      | (with_reducible exact ih2 _ _ _)
      | (with_reducible exact ih3 _ _ _)
      | (with_reducible exact wire_Astring.mono _ _)
      | (with_reducible exact wire_Tokens.mono _ _)
      | (with_reducible exact LeO.refl _)
      | (with_reducible exact LeO.none _)
      | (with_reducible refine LeO.ite ?_ ?_)
      | (with_reducible refine LeO.bind ?_ (fun _ => ?_))
      | exact ih0 _ _
      | exact ih1 _ _ _
      | exact ih2 _ _ _
      | exact ih3 _ _ _
      | exact wire_Astring.mono _ _
      | exact wire_Tokens.mono _ _
      | exact LeO.none _
      | refine LeO.ite ?_ ?_
      | refine LeO.bind ?_ (fun _ => ?_)
set_option maxHeartbeats 8000000 in
set_option maxRecDepth 100000 in
theorem letterboxlaw18_WireWords.calls (k : Nat) (A0 : Option Addr) (c0 : Nat) (l0 : List ByteArray) (r : Bool) (w : World) (hr0 : Kd.C Kd.string w A0 l0.length l0) (hc0 : l0.length ≤ c0) (h : letterboxlaw18_WireWords.f k l0 = some r) :
    Calls Try.prog 6 #[.slice A0 l0.length c0] w fun e w' => e = .returned (.bool r) ∧ Below w.heap.size w w' := by
  have HR0 := Aside0.mk hr0
  have HC0 := Aside0.mk hc0
  clear hr0 hc0
  have HB := Aside0.mk (Below.refl w.heap.size w)
  have H : ((letterboxlaw18_awake.f).bind fun t247 => (if t247 = true then (if (l0.length : Int) = 0 then (letterboxlaw18_WireWords.j0 k l0 true) else (letterboxlaw18_WireWords.j0 k l0 (decide ((l0.length : Int) > 10)))) else (some false))) = some r := h
  clear h
  replace H := Option.bind_eq_some_iff.mp H
  obtain ⟨t247, A20, H⟩ := H
  replace H : (if t247 = true then (if (l0.length : Int) = 0 then (letterboxlaw18_WireWords.j0 k l0 true) else (letterboxlaw18_WireWords.j0 k l0 (decide ((l0.length : Int) > 10)))) else (some false)) = some r := H
  have A2 := Aside0.mk A20
  clear A20
  by_cases c3 : t247 = true
  · subst c3
    have H1 : (if (l0.length : Int) = 0 then (letterboxlaw18_WireWords.j0 k l0 true) else (letterboxlaw18_WireWords.j0 k l0 (decide ((l0.length : Int) > 10)))) = some r := by rw [if_pos rfl] at H; exact H
    clear H
    have H := H1
    clear H1
    have HC4 := Aside0.mk H
    clear H
    go_enter Try.func6, Try.ntmps6
    go_upto_region 4 with (first | (go_at_call 7; (with_reducible refine (letterboxlaw18_awake.calls  true _ A2.out).mono ?_); rintro e w5 ⟨rfl, hb⟩; have n0_ := Aside0.mk (below_step (by repeat (first | (with_reducible first | exact HB.out | apply below_alloc | apply pw_below_drewN | apply below_drew1) | exact HB.out)) hb); clear HB; have HB := n0_; clear n0_; (try clear hb); (try clear hb2); (try clear hk); (try clear hi)))
    repeat (go_quiet (first | (go_at_call 7; (with_reducible refine (letterboxlaw18_awake.calls  true _ A2.out).mono ?_); rintro e w5 ⟨rfl, hb⟩; have n0_ := Aside0.mk (below_step (by repeat (first | (with_reducible first | exact HB.out | apply below_alloc | apply pw_below_drewN | apply below_drew1) | exact HB.out)) hb); clear HB; have HB := n0_; clear n0_; (try clear hb); (try clear hb2); (try clear hk); (try clear hi))); go_upto_region 4 with (first | (go_at_call 7; (with_reducible refine (letterboxlaw18_awake.calls  true _ A2.out).mono ?_); rintro e w5 ⟨rfl, hb⟩; have n0_ := Aside0.mk (below_step (by repeat (first | (with_reducible first | exact HB.out | apply below_alloc | apply pw_below_drewN | apply below_drew1) | exact HB.out)) hb); clear HB; have HB := n0_; clear n0_; (try clear hb); (try clear hb2); (try clear hk); (try clear hi))))
    (try simp only [Act.put, List.setIfInBounds_toArray, List.set_cons_zero, List.set_cons_succ])
    go_cut [19] (fun v19 wc => ∃ (kq : Nat) (x19_3 : Bool), v19 = .bool x19_3 ∧ Aside0 (letterboxlaw18_WireWords.j0 kq l0 x19_3 = some r) ∧ Aside0 (kq ≤ k) ∧ Aside0 (Below w.heap.size w wc))
    case first =>
      have H := HC4.out
      clear HC4
      by_cases c6 : (l0.length : Int) = 0
      · rw [if_pos c6] at H
        have c6b0 : ((l0.length : Int) == 0) = true := beq_iff_eq.mpr c6
        have c6b1 : ((l0.length : Int) != 0) = false := bne_eq_false_iff_eq.mpr c6
        clear c6
        (first | rw [c6b0] | (simp only [i64_w, i32_w]; rw [c6b0]) | skip)
        have H' := Aside0.mk H
        clear H
        go_wp2
        repeat (go_quiet (fail); try go_wp2)
        go_meet
        case rel => exact ⟨_, (true), (by first | rfl | (simp; done) | (simp [*]; done)), H', ⟨by first | omega | exact Nat.le_refl _⟩, ⟨by repeat (first | (with_reducible first | exact HB.out | apply below_alloc | apply pw_below_drewN | apply below_drew1) | exact HB.out)⟩⟩
      · rw [if_neg c6] at H
        have c6b0 : ((l0.length : Int) == 0) = false := beq_eq_false_iff_ne.mpr c6
        have c6b1 : ((l0.length : Int) != 0) = true := bne_iff_ne.mpr c6
        have c6b2 : ¬ (l0 = []) := fun h_ => c6 (by rw [h_]; rfl)
        (first | rw [c6b0] | (simp only [i64_w, i32_w]; rw [c6b0]) | skip)
        have H' := Aside0.mk H
        clear H
        go_wp2
        repeat (go_quiet (fail); try go_wp2)
        go_meet
        case rel => exact ⟨_, (decide ((l0.length : Int) > 10)), (by first | rfl | (simp; done) | (simp [*]; done)), H', ⟨by first | omega | exact Nat.le_refl _⟩, ⟨by repeat (first | (with_reducible first | exact HB.out | apply below_alloc | apply pw_below_drewN | apply below_drew1) | exact HB.out)⟩⟩
    case rest =>
      clear HC4
      try clear p2
      try clear c3
      try clear c6
      try clear c6b0
      try clear c6b1
      try clear c6b2
      obtain ⟨kq, x19_3, rfl, HA, HJ3, HB⟩ := hcut
      cases kq with
      | zero => exact absurd HA.out (by simp [letterboxlaw18_WireWords.j0])
      | succ kj3 =>
        have H := HA.out
        clear HA
        simp only [letterboxlaw18_WireWords.j0] at H
        by_cases c7 : x19_3 = true
        · subst c7
          have H1 : (some true) = some r := by rw [if_pos rfl] at H; exact H
          clear H
          have H := H1
          clear H1
          obtain rfl := Option.some.inj H
          go_wp2
          repeat (go_quiet (fail); try go_wp2)
          go_ret
          exact ⟨by first | rfl | (simp [errW_none, errW_some] <;> rfl) | (simp [*, errW_none, errW_some] <;> rfl), by repeat (first | (with_reducible first | exact HB.out | apply below_alloc | apply pw_below_drewN | apply below_drew1) | exact HB.out)⟩
        · replace c7 := Bool.eq_false_iff.mpr c7
          subst c7
          have H1 : (letterboxlaw18_WireWords.l0 kj3 l0 (⟨#[]⟩ : ByteArray) 0) = some r := by rw [if_neg (show ¬ (false = true) by decide)] at H; exact H
          clear H
          have H := H1
          clear H1
          have H' := Aside0.mk H
          clear H
          go_wp2
          repeat (go_quiet (fail); try go_wp2)
          go_loopg [4, 5] kj3 (fun kq v4 v5 w' => ∃ (x4_2 : ByteArray) (x5_2 : Int), v4 = .string x4_2 ∧ v5 = .int .i64 x5_2 ∧ Aside0 (letterboxlaw18_WireWords.l0 kq l0 x4_2 x5_2 = some r) ∧ Aside0 (kq ≤ kj3) ∧ Aside0 (Below w.heap.size w w'))
          case atStart => exact ⟨((⟨#[]⟩ : ByteArray)), (0), (by first | rfl | (simp; done) | (simp [*]; done)), (by first | rfl | (simp; done) | (simp [*]; done)), H', ⟨Nat.le_refl _⟩, ⟨by repeat (first | (with_reducible first | exact HB.out | apply below_alloc | apply pw_below_drewN | apply below_drew1) | exact HB.out)⟩⟩
          case round =>
            clear H'
            try clear p2
            try clear c3
            try clear c6
            try clear c6b0
            try clear c6b1
            try clear c6b2
            try clear c7
            try clear p2
            obtain ⟨x4_2, x5_2, rfl, rfl, HA, HK2, HB⟩ := hrel
            cases gk with
            | zero => exact absurd HA.out (by simp [letterboxlaw18_WireWords.l0])
            | succ k2 =>
              have H := HA.out
              clear HA
              simp only [letterboxlaw18_WireWords.l0] at H
              by_cases c8 : x5_2 < (l0.length : Int)
              · rw [if_pos c8] at H
                have c8b0 : decide (x5_2 < (l0.length : Int)) = true := decide_eq_true c8
                clear c8
                by_cases c9 : 0 ≤ x5_2
                · rw [if_pos c9] at H
                  have c9b0 : decide (0 ≤ x5_2) = true := decide_eq_true c9
                  clear c9
                  by_cases c10 : ((rdOf ByteArray.empty l0 x5_2).size : Int) > 60
                  · rw [if_pos c10] at H
                    have c10b0 : decide (60 < ((rdOf ByteArray.empty l0 x5_2).size : Int)) = true := decide_eq_true c10
                    have c10b1 : decide (60 < (rdOf ByteArray.empty l0 x5_2).size) = true := decide_eq_true (by omega)
                    clear c10
                    obtain rfl := Option.some.inj H
                    have p248 : 0 ≤ (x5_2 : Int) := of_decide_eq_true (by first | (with_reducible assumption) | assumption)
                    have q248 : x5_2 < (l0.length : Int) := of_decide_eq_true (by first | (with_reducible assumption) | assumption)
                    obtain ⟨ad248, e248, hx248_0⟩ := Kd.at_string HR0.out x5_2 p248 q248
                    cases e248
                    replace hx248_0 := (HB.out.cell (World.block_lt_of_cell? w _ hx248_0)).trans hx248_0
                    replace p248 := eq_true p248
                    replace q248 := eq_true q248
                    go_wp2
                    repeat (go_quiet (fail); try go_wp2)
                    go_ret
                    exact ⟨by first | rfl | (simp [errW_none, errW_some] <;> rfl) | (simp [*, errW_none, errW_some] <;> rfl), by repeat (first | (with_reducible first | exact HB.out | apply below_alloc | apply pw_below_drewN | apply below_drew1) | exact HB.out)⟩
                  · rw [if_neg c10] at H
                    have c10b0 : decide (60 < ((rdOf ByteArray.empty l0 x5_2).size : Int)) = false := decide_eq_false c10
                    have c10b1 : decide (60 < (rdOf ByteArray.empty l0 x5_2).size) = false := decide_eq_false (by omega)
                    clear c10
                    by_cases c11 : x5_2 > 0
                    · rw [if_pos c11] at H
                      have c11b0 : decide (0 < x5_2) = true := decide_eq_true c11
                      clear c11
                      by_cases c12 : x4_2.size + 1 ≤ 9223372036854775807
                      · rw [if_pos c12] at H
                        have c12b0 := eq_true c12
                        have c12b1 : decide (x4_2.size + 1 ≤ 9223372036854775807) = true := decide_eq_true c12
                        try have c12b2 : (9223372036854775807 < x4_2.size + 1) = False := eq_false (Nat.not_lt.2 c12)
                        replace H := Option.bind_eq_some_iff.mp H
                        obtain ⟨t250, A130, H⟩ := H
                        replace H : (if (x4_2 ++ (⟨#[32]⟩ : ByteArray)).size + t250.size ≤ 9223372036854775807 then (letterboxlaw18_WireWords.l0 k2 l0 ((x4_2 ++ (⟨#[32]⟩ : ByteArray)) ++ t250) (wrap64 (x5_2 + 1))) else (none)) = some r := H
                        have A13 := Aside0.mk A130
                        clear A130
                        by_cases c14 : (x4_2 ++ (⟨#[32]⟩ : ByteArray)).size + t250.size ≤ 9223372036854775807
                        · rw [if_pos c14] at H
                          have c14b0 := eq_true c14
                          have c14b1 : decide ((x4_2 ++ (⟨#[32]⟩ : ByteArray)).size + t250.size ≤ 9223372036854775807) = true := decide_eq_true c14
                          try have c14b2 : (9223372036854775807 < (x4_2 ++ (⟨#[32]⟩ : ByteArray)).size + t250.size) = False := eq_false (Nat.not_lt.2 c14)
                          try have c14b4 : (9223372036854775807 < x4_2.size + 1 + t250.size) = False := eq_false (Nat.not_lt.2 (by have h_ := c14; simp only [ByteArray.size_append] at h_; exact h_))
                          have H' := Aside0.mk H
                          clear H
                          have p248 : 0 ≤ (x5_2 : Int) := of_decide_eq_true (by first | (with_reducible assumption) | assumption)
                          have q248 : x5_2 < (l0.length : Int) := of_decide_eq_true (by first | (with_reducible assumption) | assumption)
                          obtain ⟨ad248, e248, hx248_0⟩ := Kd.at_string HR0.out x5_2 p248 q248
                          cases e248
                          replace hx248_0 := (HB.out.cell (World.block_lt_of_cell? w _ hx248_0)).trans hx248_0
                          replace p248 := eq_true p248
                          replace q248 := eq_true q248
                          have p249 : 0 ≤ (x5_2 : Int) := of_decide_eq_true (by first | (with_reducible assumption) | assumption)
                          have q249 : x5_2 < (l0.length : Int) := of_decide_eq_true (by first | (with_reducible assumption) | assumption)
                          obtain ⟨ad249, e249, hx249_0⟩ := Kd.at_string HR0.out x5_2 p249 q249
                          obtain rfl : ad248 = ad249 := (by injection e249)
                          replace hx249_0 := (HB.out.cell (World.block_lt_of_cell? w _ hx249_0)).trans hx249_0
                          replace p249 := eq_true p249
                          replace q249 := eq_true q249
                          go_wp2_with (first | (go_at_call 14; (with_reducible refine (wire_Astring.calls k2 (rdOf ByteArray.empty l0 x5_2) t250 _ A13.out).mono ?_); rintro e w15 ⟨rfl, hb⟩; have n0_ := Aside0.mk (below_step (by repeat (first | (with_reducible first | exact HB.out | apply below_alloc | apply pw_below_drewN | apply below_drew1) | exact HB.out)) hb); clear HB; have HB := n0_; clear n0_; (try clear hb); (try clear hb2); (try clear hk); (try clear hi)))
                          repeat (go_quiet (first | (go_at_call 14; (with_reducible refine (wire_Astring.calls k2 (rdOf ByteArray.empty l0 x5_2) t250 _ A13.out).mono ?_); rintro e w15 ⟨rfl, hb⟩; have n0_ := Aside0.mk (below_step (by repeat (first | (with_reducible first | exact HB.out | apply below_alloc | apply pw_below_drewN | apply below_drew1) | exact HB.out)) hb); clear HB; have HB := n0_; clear n0_; (try clear hb); (try clear hb2); (try clear hk); (try clear hi))); try go_wp2_with (first | (go_at_call 14; (with_reducible refine (wire_Astring.calls k2 (rdOf ByteArray.empty l0 x5_2) t250 _ A13.out).mono ?_); rintro e w15 ⟨rfl, hb⟩; have n0_ := Aside0.mk (below_step (by repeat (first | (with_reducible first | exact HB.out | apply below_alloc | apply pw_below_drewN | apply below_drew1) | exact HB.out)) hb); clear HB; have HB := n0_; clear n0_; (try clear hb); (try clear hb2); (try clear hk); (try clear hi))))
                          go_roundg k2
                          case measure => have := HJ3.out; have := HK2.out; omega
                          case rel => exact ⟨((x4_2 ++ (⟨#[32]⟩ : ByteArray)) ++ t250), (wrap64 (x5_2 + 1)), (by first | rfl | (simp; done) | (simp [*]; done)), (by first | rfl | (simp; done) | (simp [*]; done)), H', ⟨by have := HJ3.out; have := HK2.out; omega⟩, ⟨by repeat (first | (with_reducible first | exact HB.out | apply below_alloc | apply pw_below_drewN | apply below_drew1) | exact HB.out)⟩⟩
                        · rw [if_neg c14] at H
                          exact absurd H (by simp)
                      · rw [if_neg c12] at H
                        exact absurd H (by simp)
                    · rw [if_neg c11] at H
                      have c11b0 : decide (0 < x5_2) = false := decide_eq_false c11
                      clear c11
                      replace H := Option.bind_eq_some_iff.mp H
                      obtain ⟨t252, A160, H⟩ := H
                      replace H : (if x4_2.size + t252.size ≤ 9223372036854775807 then (letterboxlaw18_WireWords.l0 k2 l0 (x4_2 ++ t252) (wrap64 (x5_2 + 1))) else (none)) = some r := H
                      have A16 := Aside0.mk A160
                      clear A160
                      by_cases c17 : x4_2.size + t252.size ≤ 9223372036854775807
                      · rw [if_pos c17] at H
                        have c17b0 := eq_true c17
                        have c17b1 : decide (x4_2.size + t252.size ≤ 9223372036854775807) = true := decide_eq_true c17
                        try have c17b2 : (9223372036854775807 < x4_2.size + t252.size) = False := eq_false (Nat.not_lt.2 c17)
                        have H' := Aside0.mk H
                        clear H
                        have p248 : 0 ≤ (x5_2 : Int) := of_decide_eq_true (by first | (with_reducible assumption) | assumption)
                        have q248 : x5_2 < (l0.length : Int) := of_decide_eq_true (by first | (with_reducible assumption) | assumption)
                        obtain ⟨ad248, e248, hx248_0⟩ := Kd.at_string HR0.out x5_2 p248 q248
                        cases e248
                        replace hx248_0 := (HB.out.cell (World.block_lt_of_cell? w _ hx248_0)).trans hx248_0
                        replace p248 := eq_true p248
                        replace q248 := eq_true q248
                        have p251 : 0 ≤ (x5_2 : Int) := of_decide_eq_true (by first | (with_reducible assumption) | assumption)
                        have q251 : x5_2 < (l0.length : Int) := of_decide_eq_true (by first | (with_reducible assumption) | assumption)
                        obtain ⟨ad251, e251, hx251_0⟩ := Kd.at_string HR0.out x5_2 p251 q251
                        obtain rfl : ad248 = ad251 := (by injection e251)
                        replace hx251_0 := (HB.out.cell (World.block_lt_of_cell? w _ hx251_0)).trans hx251_0
                        replace p251 := eq_true p251
                        replace q251 := eq_true q251
                        go_wp2_with (first | (go_at_call 14; (with_reducible refine (wire_Astring.calls k2 (rdOf ByteArray.empty l0 x5_2) t252 _ A16.out).mono ?_); rintro e w18 ⟨rfl, hb⟩; have n0_ := Aside0.mk (below_step (by repeat (first | (with_reducible first | exact HB.out | apply below_alloc | apply pw_below_drewN | apply below_drew1) | exact HB.out)) hb); clear HB; have HB := n0_; clear n0_; (try clear hb); (try clear hb2); (try clear hk); (try clear hi)))
                        repeat (go_quiet (first | (go_at_call 14; (with_reducible refine (wire_Astring.calls k2 (rdOf ByteArray.empty l0 x5_2) t252 _ A16.out).mono ?_); rintro e w18 ⟨rfl, hb⟩; have n0_ := Aside0.mk (below_step (by repeat (first | (with_reducible first | exact HB.out | apply below_alloc | apply pw_below_drewN | apply below_drew1) | exact HB.out)) hb); clear HB; have HB := n0_; clear n0_; (try clear hb); (try clear hb2); (try clear hk); (try clear hi))); try go_wp2_with (first | (go_at_call 14; (with_reducible refine (wire_Astring.calls k2 (rdOf ByteArray.empty l0 x5_2) t252 _ A16.out).mono ?_); rintro e w18 ⟨rfl, hb⟩; have n0_ := Aside0.mk (below_step (by repeat (first | (with_reducible first | exact HB.out | apply below_alloc | apply pw_below_drewN | apply below_drew1) | exact HB.out)) hb); clear HB; have HB := n0_; clear n0_; (try clear hb); (try clear hb2); (try clear hk); (try clear hi))))
                        go_roundg k2
                        case measure => have := HJ3.out; have := HK2.out; omega
                        case rel => exact ⟨(x4_2 ++ t252), (wrap64 (x5_2 + 1)), (by first | rfl | (simp; done) | (simp [*]; done)), (by first | rfl | (simp; done) | (simp [*]; done)), H', ⟨by have := HJ3.out; have := HK2.out; omega⟩, ⟨by repeat (first | (with_reducible first | exact HB.out | apply below_alloc | apply pw_below_drewN | apply below_drew1) | exact HB.out)⟩⟩
                      · rw [if_neg c17] at H
                        exact absurd H (by simp)
                · rw [if_neg c9] at H
                  exact absurd H (by simp)
              · rw [if_neg c8] at H
                have c8b0 : decide (x5_2 < (l0.length : Int)) = false := decide_eq_false c8
                clear c8
                by_cases c19 : 1 + x4_2.size ≤ 9223372036854775807
                · rw [if_pos c19] at H
                  have c19b0 := eq_true c19
                  have c19b1 : decide (1 + x4_2.size ≤ 9223372036854775807) = true := decide_eq_true c19
                  try have c19b2 : (9223372036854775807 < 1 + x4_2.size) = False := eq_false (Nat.not_lt.2 c19)
                  by_cases c20 : ((⟨#[40]⟩ : ByteArray) ++ x4_2).size + 1 ≤ 9223372036854775807
                  · rw [if_pos c20] at H
                    have c20b0 := eq_true c20
                    have c20b1 : decide (((⟨#[40]⟩ : ByteArray) ++ x4_2).size + 1 ≤ 9223372036854775807) = true := decide_eq_true c20
                    try have c20b2 : (9223372036854775807 < ((⟨#[40]⟩ : ByteArray) ++ x4_2).size + 1) = False := eq_false (Nat.not_lt.2 c20)
                    try have c20b4 : (9223372036854775807 < 1 + x4_2.size + 1) = False := eq_false (Nat.not_lt.2 (by have h_ := c20; simp only [ByteArray.size_append] at h_; exact h_))
                    by_cases c21 : (((⟨#[40]⟩ : ByteArray) ++ x4_2) ++ (⟨#[41]⟩ : ByteArray)).size ≤ 9223372036854775807
                    · rw [if_pos c21] at H
                      have c21b0 := eq_true c21
                      have c21b1 : decide ((((⟨#[40]⟩ : ByteArray) ++ x4_2) ++ (⟨#[41]⟩ : ByteArray)).size ≤ 9223372036854775807) = true := decide_eq_true c21
                      try have c21b2 : (9223372036854775807 < (((⟨#[40]⟩ : ByteArray) ++ x4_2) ++ (⟨#[41]⟩ : ByteArray)).size) = False := eq_false (Nat.not_lt.2 c21)
                      try have c21b4 : (9223372036854775807 < 1 + x4_2.size + 1) = False := eq_false (Nat.not_lt.2 (by have h_ := c21; simp only [ByteArray.size_append] at h_; exact h_))
                      obtain ⟨y253, hy253⟩ : ∃ y_ : List Int, y_ = (bytesOf (((⟨#[40]⟩ : ByteArray) ++ x4_2) ++ (⟨#[41]⟩ : ByteArray))) := ⟨_, rfl⟩
                      replace H : ((wire_Tokens.f k2 y253).bind fun bt256 => (if bt256.2 = 0 then (if (bt256.1.length : Int) = (wrap64 ((wrap64 (2 * (l0.length : Int))) + 1)) then (if 0 < (bt256.1.length : Int) then (if ((rd_T43 bt256.1 0).f0) = 3 then (if 0 ≤ (wrap64 ((bt256.1.length : Int) - 1)) then (if (wrap64 ((bt256.1.length : Int) - 1)) < (bt256.1.length : Int) then (letterboxlaw18_WireWords.j2 k2 l0 bt256.1 (((rd_T43 bt256.1 (wrap64 ((bt256.1.length : Int) - 1))).f0) != 4)) else (none)) else (none)) else (letterboxlaw18_WireWords.j2 k2 l0 bt256.1 true)) else (none)) else (letterboxlaw18_WireWords.j2 k2 l0 bt256.1 true)) else (letterboxlaw18_WireWords.j2 k2 l0 bt256.1 true))) = some r := by first | (rw [hy253]; with_reducible exact H) | (have H2_ := (Option.bind_some _ _).symm.trans H; rw [hy253]; with_reducible exact H2_) | (have H2_ := (Option.bind_some _ _).symm.trans H; with_reducible exact H2_) | with_reducible exact H | (rw [hy253]; exact H) | exact H
                      have Ny253 := Aside0.mk hy253
                      clear hy253
                      replace H := Option.bind_eq_some_iff.mp H
                      obtain ⟨⟨t256, t257⟩, A220, H⟩ := H
                      replace H : (if t257 = 0 then (if (t256.length : Int) = (wrap64 ((wrap64 (2 * (l0.length : Int))) + 1)) then (if 0 < (t256.length : Int) then (if ((rd_T43 t256 0).f0) = 3 then (if 0 ≤ (wrap64 ((t256.length : Int) - 1)) then (if (wrap64 ((t256.length : Int) - 1)) < (t256.length : Int) then (letterboxlaw18_WireWords.j2 k2 l0 t256 (((rd_T43 t256 (wrap64 ((t256.length : Int) - 1))).f0) != 4)) else (none)) else (none)) else (letterboxlaw18_WireWords.j2 k2 l0 t256 true)) else (none)) else (letterboxlaw18_WireWords.j2 k2 l0 t256 true)) else (letterboxlaw18_WireWords.j2 k2 l0 t256 true)) = some r := H
                      have A22 := Aside0.mk A220
                      clear A220
                      have HC23 := Aside0.mk H
                      clear H
                      go_upto_region 16 with (first | ((with_reducible refine gate_dst (N := 47) rfl ?_); (try (refine gate_guard (by rfl) ?_; dsimp only)); refine Conv.bytes _ 5 rfl (N := 47) rfl 9 22 _ rfl (((⟨#[40]⟩ : ByteArray) ++ x4_2) ++ (⟨#[41]⟩ : ByteArray)) rfl Try.underlying9 Try.underlying22 Try.underlying5 (of_decide_eq_true (by first | (with_reducible assumption) | assumption)) (ok := (fun _ => True)) ((show ∀ k_, wr.heap.size ≤ k_ → (fun _ => True) k_ from fun k_ hk => trivial) _ (Nat.le_refl _)) (Below.refl _ _) (Nat.le_refl _) ?_; intro v254 w24 ho25 hb hg_ hnew_; clear hg_ hnew_; (first | rw [← Ny253.out] at ho25 | (simp only [Int.reduceToNat] at ho25; rw [← Ny253.out] at ho25)); have n0_ := Aside0.mk (Kd.V_lower ho25 (below_size (by repeat (first | (with_reducible first | exact HB.out | apply below_alloc | apply pw_below_drewN | apply below_drew1) | exact HB.out)))); have n1_ := Aside0.mk (below_step (by repeat (first | (with_reducible first | exact HB.out | apply below_alloc | apply pw_below_drewN | apply below_drew1) | exact HB.out)) hb); clear HB; have HO255 := n0_; have HB := n1_; clear n0_ n1_; clear hb ho25; obtain ⟨Ao26, co26, eo26⟩ := Kd.V_slice HO255.out; subst eo26) | (go_at_call 17; (with_reducible refine (wire_Tokens.calls k2 _ _ y253 t256 t257 _ ?side1 ?side2 A22.out).mono ?_); (case side1 => repeat (first | exact (Kd.V_reads' HO255.out).2.2 | (with_reducible refine Kd.C_alloc ?_ _) | (with_reducible refine Kd.C_drewN ?_ _) | (with_reducible refine Kd.C_drew ?_))); (case side2 => exact (Kd.V_reads' HO255.out).2.1); rintro e w27 ⟨v258, rfl, ho0, hb⟩; have n0_ := Aside0.mk (Kd.V_elder' (by (with_reducible repeat (first | apply Kd.V_alloc | apply Kd.V_drewN | apply Kd.V_drew)); exact HO255.out) (Kd.R_base ho0) hb); have n1_ := Aside0.mk (Kd.R_lower ho0 (below_size (by repeat (first | (with_reducible first | exact HB.out | apply below_alloc | apply pw_below_drewN | apply below_drew1) | exact HB.out)))); have n2_ := Aside0.mk (below_step (by repeat (first | (with_reducible first | exact HB.out | apply below_alloc | apply pw_below_drewN | apply below_drew1) | exact HB.out)) hb); clear HO255; clear HB; have HO255 := n0_; have HO259 := n1_; have HB := n2_; clear n0_ n1_ n2_; (try clear hb); (try clear hb2); (try clear hk); (try clear hi); (try clear ho0)))
                      repeat (go_quiet (first | ((with_reducible refine gate_dst (N := 47) rfl ?_); (try (refine gate_guard (by rfl) ?_; dsimp only)); refine Conv.bytes _ 5 rfl (N := 47) rfl 9 22 _ rfl (((⟨#[40]⟩ : ByteArray) ++ x4_2) ++ (⟨#[41]⟩ : ByteArray)) rfl Try.underlying9 Try.underlying22 Try.underlying5 (of_decide_eq_true (by first | (with_reducible assumption) | assumption)) (ok := (fun _ => True)) ((show ∀ k_, wr.heap.size ≤ k_ → (fun _ => True) k_ from fun k_ hk => trivial) _ (Nat.le_refl _)) (Below.refl _ _) (Nat.le_refl _) ?_; intro v254 w24 ho25 hb hg_ hnew_; clear hg_ hnew_; (first | rw [← Ny253.out] at ho25 | (simp only [Int.reduceToNat] at ho25; rw [← Ny253.out] at ho25)); have n0_ := Aside0.mk (Kd.V_lower ho25 (below_size (by repeat (first | (with_reducible first | exact HB.out | apply below_alloc | apply pw_below_drewN | apply below_drew1) | exact HB.out)))); have n1_ := Aside0.mk (below_step (by repeat (first | (with_reducible first | exact HB.out | apply below_alloc | apply pw_below_drewN | apply below_drew1) | exact HB.out)) hb); clear HB; have HO255 := n0_; have HB := n1_; clear n0_ n1_; clear hb ho25; obtain ⟨Ao26, co26, eo26⟩ := Kd.V_slice HO255.out; subst eo26) | (go_at_call 17; (with_reducible refine (wire_Tokens.calls k2 _ _ y253 t256 t257 _ ?side1 ?side2 A22.out).mono ?_); (case side1 => repeat (first | exact (Kd.V_reads' HO255.out).2.2 | (with_reducible refine Kd.C_alloc ?_ _) | (with_reducible refine Kd.C_drewN ?_ _) | (with_reducible refine Kd.C_drew ?_))); (case side2 => exact (Kd.V_reads' HO255.out).2.1); rintro e w27 ⟨v258, rfl, ho0, hb⟩; have n0_ := Aside0.mk (Kd.V_elder' (by (with_reducible repeat (first | apply Kd.V_alloc | apply Kd.V_drewN | apply Kd.V_drew)); exact HO255.out) (Kd.R_base ho0) hb); have n1_ := Aside0.mk (Kd.R_lower ho0 (below_size (by repeat (first | (with_reducible first | exact HB.out | apply below_alloc | apply pw_below_drewN | apply below_drew1) | exact HB.out)))); have n2_ := Aside0.mk (below_step (by repeat (first | (with_reducible first | exact HB.out | apply below_alloc | apply pw_below_drewN | apply below_drew1) | exact HB.out)) hb); clear HO255; clear HB; have HO255 := n0_; have HO259 := n1_; have HB := n2_; clear n0_ n1_ n2_; (try clear hb); (try clear hb2); (try clear hk); (try clear hi); (try clear ho0))); go_upto_region 16 with (first | ((with_reducible refine gate_dst (N := 47) rfl ?_); (try (refine gate_guard (by rfl) ?_; dsimp only)); refine Conv.bytes _ 5 rfl (N := 47) rfl 9 22 _ rfl (((⟨#[40]⟩ : ByteArray) ++ x4_2) ++ (⟨#[41]⟩ : ByteArray)) rfl Try.underlying9 Try.underlying22 Try.underlying5 (of_decide_eq_true (by first | (with_reducible assumption) | assumption)) (ok := (fun _ => True)) ((show ∀ k_, wr.heap.size ≤ k_ → (fun _ => True) k_ from fun k_ hk => trivial) _ (Nat.le_refl _)) (Below.refl _ _) (Nat.le_refl _) ?_; intro v254 w24 ho25 hb hg_ hnew_; clear hg_ hnew_; (first | rw [← Ny253.out] at ho25 | (simp only [Int.reduceToNat] at ho25; rw [← Ny253.out] at ho25)); have n0_ := Aside0.mk (Kd.V_lower ho25 (below_size (by repeat (first | (with_reducible first | exact HB.out | apply below_alloc | apply pw_below_drewN | apply below_drew1) | exact HB.out)))); have n1_ := Aside0.mk (below_step (by repeat (first | (with_reducible first | exact HB.out | apply below_alloc | apply pw_below_drewN | apply below_drew1) | exact HB.out)) hb); clear HB; have HO255 := n0_; have HB := n1_; clear n0_ n1_; clear hb ho25; obtain ⟨Ao26, co26, eo26⟩ := Kd.V_slice HO255.out; subst eo26) | (go_at_call 17; (with_reducible refine (wire_Tokens.calls k2 _ _ y253 t256 t257 _ ?side1 ?side2 A22.out).mono ?_); (case side1 => repeat (first | exact (Kd.V_reads' HO255.out).2.2 | (with_reducible refine Kd.C_alloc ?_ _) | (with_reducible refine Kd.C_drewN ?_ _) | (with_reducible refine Kd.C_drew ?_))); (case side2 => exact (Kd.V_reads' HO255.out).2.1); rintro e w27 ⟨v258, rfl, ho0, hb⟩; have n0_ := Aside0.mk (Kd.V_elder' (by (with_reducible repeat (first | apply Kd.V_alloc | apply Kd.V_drewN | apply Kd.V_drew)); exact HO255.out) (Kd.R_base ho0) hb); have n1_ := Aside0.mk (Kd.R_lower ho0 (below_size (by repeat (first | (with_reducible first | exact HB.out | apply below_alloc | apply pw_below_drewN | apply below_drew1) | exact HB.out)))); have n2_ := Aside0.mk (below_step (by repeat (first | (with_reducible first | exact HB.out | apply below_alloc | apply pw_below_drewN | apply below_drew1) | exact HB.out)) hb); clear HO255; clear HB; have HO255 := n0_; have HO259 := n1_; have HB := n2_; clear n0_ n1_ n2_; (try clear hb); (try clear hb2); (try clear hk); (try clear hi); (try clear ho0))))
                      (try simp only [Act.put, List.setIfInBounds_toArray, List.set_cons_zero, List.set_cons_succ])
                      go_cut [78] (fun v78 wc => ∃ (kq : Nat) (x78_22 : Bool), v78 = .bool x78_22 ∧ Aside0 (letterboxlaw18_WireWords.j2 kq l0 t256 x78_22 = some r) ∧ Aside0 (kq ≤ k2) ∧ Aside0 (Kd.R k43 43 wc w.heap.size (fun _ => True) v258 t256) ∧ Aside0 (Below w.heap.size w wc))
                      case first =>
                        have H := HC23.out
                        clear HC23
                        by_cases c28 : t257 = 0
                        · rw [if_pos c28] at H
                          have c28b0 : (t257 == 0) = true := beq_iff_eq.mpr c28
                          have c28b1 : (t257 != 0) = false := bne_eq_false_iff_eq.mpr c28
                          clear c28
                          (first | rw [c28b0] | (simp only [i64_w, i32_w]; rw [c28b0]) | skip)
                          by_cases c29 : (t256.length : Int) = (wrap64 ((wrap64 (2 * (l0.length : Int))) + 1))
                          · rw [if_pos c29] at H
                            have c29b0 : ((t256.length : Int) == (wrap64 ((wrap64 (2 * (l0.length : Int))) + 1))) = true := beq_iff_eq.mpr c29
                            have c29b1 : ((t256.length : Int) != (wrap64 ((wrap64 (2 * (l0.length : Int))) + 1))) = false := bne_eq_false_iff_eq.mpr c29
                            clear c29
                            by_cases c30 : 0 < (t256.length : Int)
                            · rw [if_pos c30] at H
                              have c30b0 : decide (0 < (t256.length : Int)) = true := decide_eq_true c30
                              have c30b1 : decide (0 < t256.length) = true := decide_eq_true (by omega)
                              clear c30
                              by_cases c31 : ((rd_T43 t256 0).f0) = 3
                              · rw [if_pos c31] at H
                                have c31b0 : (((rd_T43 t256 0).f0) == 3) = true := beq_iff_eq.mpr c31
                                have c31b1 : (((rd_T43 t256 0).f0) != 3) = false := bne_eq_false_iff_eq.mpr c31
                                clear c31
                                obtain ⟨ji32, hji32⟩ : ∃ j_ : Int, (wrap64 ((t256.length : Int) - 1)) = j_ := ⟨_, rfl⟩
                                replace H : (if 0 ≤ (ji32) then (if (ji32) < (t256.length : Int) then (letterboxlaw18_WireWords.j2 k2 l0 t256 (((rd_T43 t256 (ji32)).f0) != 4)) else (none)) else (none)) = some r := by first | (rw [hji32] at H; exact H) | (simp only [hji32] at H ⊢; exact H)
                                have hji32w : (IntKind.i64.wrap ((t256.length : Int) - 1)) = ji32 := (i64_w _).trans hji32
                                by_cases c33 : 0 ≤ (ji32)
                                · rw [if_pos c33] at H
                                  have c33b0 : decide (0 ≤ (ji32)) = true := decide_eq_true c33
                                  clear c33
                                  by_cases c34 : (ji32) < (t256.length : Int)
                                  · rw [if_pos c34] at H
                                    have c34b0 : decide ((ji32) < (t256.length : Int)) = true := decide_eq_true c34
                                    clear c34
                                    have H' := Aside0.mk H
                                    clear H
                                    obtain ⟨Ao35, co35, eo35⟩ := Kd.R_slice HO259.out
                                    subst eo35
                                    have p260 : 0 ≤ (0 : Int) := (by omega)
                                    have q260 : 0 < (t256.length : Int) := of_decide_eq_true (by first | (with_reducible assumption) | assumption)
                                    obtain ⟨ad260, e260, hx260_0, hx260_1⟩ := at_T43 (Kd.R_reads' HO259.out).2.2 0 p260 q260
                                    cases e260
                                    have qi260 : (0 < t256.length) = True := eq_true (by omega)
                                    (try rw [show ((0 : Int)).toNat = 0 from rfl] at hx260_0)
                                    (try rw [show 0 * 2 = 0 from rfl] at hx260_0)
                                    (try rw [Addr.add_zero'] at hx260_0)
                                    (try rw [show ((0 : Int)).toNat = 0 from rfl] at hx260_1)
                                    (try rw [show 0 * 2 = 0 from rfl] at hx260_1)
                                    (try rw [Addr.add_zero'] at hx260_1)
                                    replace p260 := eq_true p260
                                    replace q260 := eq_true q260
                                    have p261 : 0 ≤ ((ji32) : Int) := of_decide_eq_true (by first | (with_reducible assumption) | assumption)
                                    have q261 : (ji32) < (t256.length : Int) := of_decide_eq_true (by first | (with_reducible assumption) | assumption)
                                    obtain ⟨ad261, e261, hx261_0, hx261_1⟩ := at_T43 (Kd.R_reads' HO259.out).2.2 (ji32) p261 q261
                                    obtain rfl : ad260 = ad261 := (by injection e261)
                                    replace p261 := eq_true p261
                                    replace q261 := eq_true q261
                                    go_wp2
                                    repeat (go_quiet (fail); try go_wp2)
                                    go_meet
                                    case rel => exact ⟨_, ((((rd_T43 t256 (ji32)).f0) != 4)), (by first | rfl | (simp; done) | (simp only [← hji32] <;> (first | rfl | simp)) | (simp [*]; done)), (by first | exact H' | (rw [hji32]; exact H')), ⟨by have := HJ3.out; have := HK2.out; first | omega | exact Nat.le_refl _⟩, ⟨by (with_reducible repeat (first | apply Kd.R_alloc | apply Kd.R_drewN | apply Kd.R_drew)); exact HO259.out⟩, ⟨by repeat (first | (with_reducible first | exact HB.out | apply below_alloc | apply pw_below_drewN | apply below_drew1) | exact HB.out)⟩⟩
                                  · rw [if_neg c34] at H
                                    exact absurd H (by simp)
                                · rw [if_neg c33] at H
                                  exact absurd H (by simp)
                              · rw [if_neg c31] at H
                                have c31b0 : (((rd_T43 t256 0).f0) == 3) = false := beq_eq_false_iff_ne.mpr c31
                                have c31b1 : (((rd_T43 t256 0).f0) != 3) = true := bne_iff_ne.mpr c31
                                have H' := Aside0.mk H
                                clear H
                                obtain ⟨Ao36, co36, eo36⟩ := Kd.R_slice HO259.out
                                subst eo36
                                have p260 : 0 ≤ (0 : Int) := (by omega)
                                have q260 : 0 < (t256.length : Int) := of_decide_eq_true (by first | (with_reducible assumption) | assumption)
                                obtain ⟨ad260, e260, hx260_0, hx260_1⟩ := at_T43 (Kd.R_reads' HO259.out).2.2 0 p260 q260
                                cases e260
                                have qi260 : (0 < t256.length) = True := eq_true (by omega)
                                (try rw [show ((0 : Int)).toNat = 0 from rfl] at hx260_0)
                                (try rw [show 0 * 2 = 0 from rfl] at hx260_0)
                                (try rw [Addr.add_zero'] at hx260_0)
                                (try rw [show ((0 : Int)).toNat = 0 from rfl] at hx260_1)
                                (try rw [show 0 * 2 = 0 from rfl] at hx260_1)
                                (try rw [Addr.add_zero'] at hx260_1)
                                replace p260 := eq_true p260
                                replace q260 := eq_true q260
                                go_wp2
                                repeat (go_quiet (fail); try go_wp2)
                                go_meet
                                case rel => exact ⟨_, (true), (by first | rfl | (simp; done) | (simp [*]; done)), (by first | exact H' | (rw [hji32]; exact H')), ⟨by have := HJ3.out; have := HK2.out; first | omega | exact Nat.le_refl _⟩, ⟨by (with_reducible repeat (first | apply Kd.R_alloc | apply Kd.R_drewN | apply Kd.R_drew)); exact HO259.out⟩, ⟨by repeat (first | (with_reducible first | exact HB.out | apply below_alloc | apply pw_below_drewN | apply below_drew1) | exact HB.out)⟩⟩
                            · rw [if_neg c30] at H
                              exact absurd H (by simp)
                          · rw [if_neg c29] at H
                            have c29b0 : ((t256.length : Int) == (wrap64 ((wrap64 (2 * (l0.length : Int))) + 1))) = false := beq_eq_false_iff_ne.mpr c29
                            have c29b1 : ((t256.length : Int) != (wrap64 ((wrap64 (2 * (l0.length : Int))) + 1))) = true := bne_iff_ne.mpr c29
                            have H' := Aside0.mk H
                            clear H
                            obtain ⟨Ao37, co37, eo37⟩ := Kd.R_slice HO259.out
                            subst eo37
                            go_wp2
                            repeat (go_quiet (fail); try go_wp2)
                            go_meet
                            case rel => exact ⟨_, (true), (by first | rfl | (simp; done) | (simp [*]; done)), (by first | exact H' | (rw [hji32]; exact H')), ⟨by have := HJ3.out; have := HK2.out; first | omega | exact Nat.le_refl _⟩, ⟨by (with_reducible repeat (first | apply Kd.R_alloc | apply Kd.R_drewN | apply Kd.R_drew)); exact HO259.out⟩, ⟨by repeat (first | (with_reducible first | exact HB.out | apply below_alloc | apply pw_below_drewN | apply below_drew1) | exact HB.out)⟩⟩
                        · rw [if_neg c28] at H
                          have c28b0 : (t257 == 0) = false := beq_eq_false_iff_ne.mpr c28
                          have c28b1 : (t257 != 0) = true := bne_iff_ne.mpr c28
                          (first | rw [c28b0] | (simp only [i64_w, i32_w]; rw [c28b0]) | skip)
                          have H' := Aside0.mk H
                          clear H
                          go_wp2
                          repeat (go_quiet (fail); try go_wp2)
                          go_meet
                          case rel => exact ⟨_, (true), (by first | rfl | (simp; done) | (simp [*]; done)), (by first | exact H' | (rw [hji32]; exact H')), ⟨by have := HJ3.out; have := HK2.out; first | omega | exact Nat.le_refl _⟩, ⟨by (with_reducible repeat (first | apply Kd.R_alloc | apply Kd.R_drewN | apply Kd.R_drew)); exact HO259.out⟩, ⟨by repeat (first | (with_reducible first | exact HB.out | apply below_alloc | apply pw_below_drewN | apply below_drew1) | exact HB.out)⟩⟩
                      case rest =>
                        clear HC23
                        try clear c1
                        try clear c2
                        try clear p2
                        try clear q2
                        try clear hx2
                        try clear qi2
                        try clear c3
                        try clear c6
                        try clear c6b0
                        try clear c6b1
                        try clear c6b2
                        try clear p6
                        try clear c7
                        try clear c8
                        try clear c8b0
                        try clear c9
                        try clear c9b0
                        try clear c10
                        try clear c10b0
                        try clear c10b1
                        try clear c11
                        try clear c11b0
                        try clear c12
                        try clear c12b0
                        try clear c12b1
                        try clear c12b2
                        try clear c14
                        try clear c14b0
                        try clear c14b1
                        try clear c14b2
                        try clear c17
                        try clear c17b0
                        try clear c17b1
                        try clear c17b2
                        try clear c19
                        try clear c19b0
                        try clear c19b1
                        try clear c19b2
                        try clear c20
                        try clear c20b0
                        try clear c20b1
                        try clear c20b2
                        try clear c21
                        try clear c21b0
                        try clear c21b1
                        try clear c21b2
                        try clear p24
                        try clear q24
                        try clear hx24
                        try clear p25
                        try clear q25
                        try clear hx25
                        try clear p26
                        try clear q26
                        try clear hx26
                        try clear qi26
                        try clear c28
                        try clear c28b0
                        try clear c28b1
                        try clear c29
                        try clear c29b0
                        try clear c29b1
                        try clear c30
                        try clear c30b0
                        try clear c30b1
                        try clear c31
                        try clear c31b0
                        try clear c31b1
                        try clear c33
                        try clear c33b0
                        try clear c34
                        try clear c34b0
                        try clear hx248_0
                        try clear hx249_0
                        try clear hx251_0
                        try clear hx260_0
                        try clear hx260_1
                        try clear hx261_0
                        try clear hx261_1
                        try clear p2
                        try clear p248
                        try clear p249
                        try clear p251
                        try clear p260
                        try clear p261
                        try clear q248
                        try clear q249
                        try clear q251
                        try clear q260
                        try clear q261
                        obtain ⟨kq, x78_22, rfl, HA, HJ22, HO_6, HB⟩ := hcut
                        cases kq with
                        | zero => exact absurd HA.out (by simp [letterboxlaw18_WireWords.j2])
                        | succ kj22 =>
                          have H := HA.out
                          clear HA
                          simp only [letterboxlaw18_WireWords.j2] at H
                          by_cases c38 : x78_22 = true
                          · subst c38
                            have H1 : (some false) = some r := by rw [if_pos rfl] at H; exact H
                            clear H
                            have H := H1
                            clear H1
                            obtain rfl := Option.some.inj H
                            go_wp2
                            repeat (go_quiet (fail); try go_wp2)
                            go_ret
                            exact ⟨by first | rfl | (simp [errW_none, errW_some] <;> rfl) | (simp [*, errW_none, errW_some] <;> rfl), by repeat (first | (with_reducible first | exact HB.out | apply below_alloc | apply pw_below_drewN | apply below_drew1) | exact HB.out)⟩
                          · replace c38 := Bool.eq_false_iff.mpr c38
                            subst c38
                            have H1 : (letterboxlaw18_WireWords.l1 kj22 l0 t256 0) = some r := by rw [if_neg (show ¬ (false = true) by decide)] at H; exact H
                            clear H
                            have H := H1
                            clear H1
                            have H' := Aside0.mk H
                            clear H
                            go_wp2
                            repeat (go_quiet (fail); try go_wp2)
                            go_loopg [8] kj22 (fun kq v8 w' => ∃ (x8_4 : Int), v8 = .int .i64 x8_4 ∧ Aside0 (letterboxlaw18_WireWords.l1 kq l0 t256 x8_4 = some r) ∧ Aside0 (kq ≤ kj22) ∧ Aside0 (Kd.R k43 43 w' w.heap.size (fun _ => True) v258 t256) ∧ Aside0 (Below w.heap.size w w'))
                            case atStart => exact ⟨(0), (by first | rfl | (simp; done) | (simp [*]; done)), H', ⟨Nat.le_refl _⟩, ⟨by (with_reducible repeat (first | apply Kd.R_alloc | apply Kd.R_drewN | apply Kd.R_drew)); exact HO_6.out⟩, ⟨by repeat (first | (with_reducible first | exact HB.out | apply below_alloc | apply pw_below_drewN | apply below_drew1) | exact HB.out)⟩⟩
                            case round =>
                              clear H'
                              try clear c1
                              try clear c2
                              try clear p2
                              try clear q2
                              try clear hx2
                              try clear qi2
                              try clear c3
                              try clear c6
                              try clear c6b0
                              try clear c6b1
                              try clear c6b2
                              try clear p6
                              try clear c7
                              try clear c8
                              try clear c8b0
                              try clear c9
                              try clear c9b0
                              try clear c10
                              try clear c10b0
                              try clear c10b1
                              try clear c11
                              try clear c11b0
                              try clear c12
                              try clear c12b0
                              try clear c12b1
                              try clear c12b2
                              try clear c14
                              try clear c14b0
                              try clear c14b1
                              try clear c14b2
                              try clear c17
                              try clear c17b0
                              try clear c17b1
                              try clear c17b2
                              try clear c19
                              try clear c19b0
                              try clear c19b1
                              try clear c19b2
                              try clear c20
                              try clear c20b0
                              try clear c20b1
                              try clear c20b2
                              try clear c21
                              try clear c21b0
                              try clear c21b1
                              try clear c21b2
                              try clear p24
                              try clear q24
                              try clear hx24
                              try clear p25
                              try clear q25
                              try clear hx25
                              try clear p26
                              try clear q26
                              try clear hx26
                              try clear qi26
                              try clear c28
                              try clear c28b0
                              try clear c28b1
                              try clear c29
                              try clear c29b0
                              try clear c29b1
                              try clear c30
                              try clear c30b0
                              try clear c30b1
                              try clear c31
                              try clear c31b0
                              try clear c31b1
                              try clear c33
                              try clear c33b0
                              try clear c34
                              try clear c34b0
                              try clear c38
                              try clear hx248_0
                              try clear hx249_0
                              try clear hx251_0
                              try clear hx260_0
                              try clear hx260_1
                              try clear hx261_0
                              try clear hx261_1
                              try clear p2
                              try clear p24
                              try clear p248
                              try clear p249
                              try clear p25
                              try clear p251
                              try clear p26
                              try clear p260
                              try clear p261
                              try clear p6
                              try clear q2
                              try clear q24
                              try clear q248
                              try clear q249
                              try clear q25
                              try clear q251
                              try clear q26
                              try clear q260
                              try clear q261
                              obtain ⟨x8_4, rfl, HA, HK4, HO_6, HB⟩ := hrel
                              cases gk with
                              | zero => exact absurd HA.out (by simp [letterboxlaw18_WireWords.l1])
                              | succ k4 =>
                                have H := HA.out
                                clear HA
                                simp only [letterboxlaw18_WireWords.l1] at H
                                by_cases c39 : x8_4 < (l0.length : Int)
                                · rw [if_pos c39] at H
                                  have c39b0 : decide (x8_4 < (l0.length : Int)) = true := decide_eq_true c39
                                  clear c39
                                  obtain ⟨ji40, hji40⟩ : ∃ j_ : Int, (wrap64 ((wrap64 (2 * x8_4)) + 1)) = j_ := ⟨_, rfl⟩
                                  replace H : (if 0 ≤ (ji40) then (if (ji40) < (t256.length : Int) then (if 0 ≤ x8_4 then (if ((rd_T43 t256 (ji40)).f1).toList = (rdOf ByteArray.empty l0 x8_4).toList then (if ((rd_T43 t256 (ji40)).f0) = 1 then (letterboxlaw18_WireWords.l1 k4 l0 t256 (wrap64 (x8_4 + 1))) else (if ((rd_T43 t256 (ji40)).f0) = 2 then (letterboxlaw18_WireWords.l1 k4 l0 t256 (wrap64 (x8_4 + 1))) else (some false))) else (some false)) else (none)) else (none)) else (none)) = some r := by first | (rw [hji40] at H; exact H) | (simp only [hji40] at H ⊢; exact H)
                                  have hji40w : (IntKind.i64.wrap ((wrap64 (2 * x8_4)) + 1)) = ji40 := (i64_w _).trans hji40
                                  by_cases c41 : 0 ≤ (ji40)
                                  · rw [if_pos c41] at H
                                    have c41b0 : decide (0 ≤ (ji40)) = true := decide_eq_true c41
                                    clear c41
                                    by_cases c42 : (ji40) < (t256.length : Int)
                                    · rw [if_pos c42] at H
                                      have c42b0 : decide ((ji40) < (t256.length : Int)) = true := decide_eq_true c42
                                      clear c42
                                      by_cases c43 : 0 ≤ x8_4
                                      · rw [if_pos c43] at H
                                        have c43b0 : decide (0 ≤ x8_4) = true := decide_eq_true c43
                                        clear c43
                                        by_cases c44 : ((rd_T43 t256 (ji40)).f1).toList = (rdOf ByteArray.empty l0 x8_4).toList
                                        · rw [if_pos c44] at H
                                          have c44b0 : (((rd_T43 t256 (ji40)).f1).toList == (rdOf ByteArray.empty l0 x8_4).toList) = true := beq_iff_eq.mpr c44
                                          have c44b1 : (((rd_T43 t256 (ji40)).f1).toList != (rdOf ByteArray.empty l0 x8_4).toList) = false := bne_eq_false_iff_eq.mpr c44
                                          clear c44
                                          by_cases c45 : ((rd_T43 t256 (ji40)).f0) = 1
                                          · rw [if_pos c45] at H
                                            have c45b0 : (((rd_T43 t256 (ji40)).f0) == 1) = true := beq_iff_eq.mpr c45
                                            have c45b1 : (((rd_T43 t256 (ji40)).f0) != 1) = false := bne_eq_false_iff_eq.mpr c45
                                            clear c45
                                            have H' := Aside0.mk H
                                            clear H
                                            obtain ⟨Ao46, co46, eo46⟩ := Kd.R_slice HO_6.out
                                            subst eo46
                                            have p262 : 0 ≤ ((ji40) : Int) := of_decide_eq_true (by first | (with_reducible assumption) | assumption)
                                            have q262 : (ji40) < (t256.length : Int) := of_decide_eq_true (by first | (with_reducible assumption) | assumption)
                                            obtain ⟨ad262, e262, hx262_0, hx262_1⟩ := at_T43 (Kd.R_reads' HO_6.out).2.2 (ji40) p262 q262
                                            cases e262
                                            replace p262 := eq_true p262
                                            replace q262 := eq_true q262
                                            have p263 : 0 ≤ (x8_4 : Int) := of_decide_eq_true (by first | (with_reducible assumption) | assumption)
                                            have q263 : x8_4 < (l0.length : Int) := of_decide_eq_true (by first | (with_reducible assumption) | assumption)
                                            obtain ⟨ad263, e263, hx263_0⟩ := Kd.at_string HR0.out x8_4 p263 q263
                                            cases e263
                                            replace hx263_0 := (HB.out.cell (World.block_lt_of_cell? w _ hx263_0)).trans hx263_0
                                            replace p263 := eq_true p263
                                            replace q263 := eq_true q263
                                            have p264 : 0 ≤ ((ji40) : Int) := of_decide_eq_true (by first | (with_reducible assumption) | assumption)
                                            have q264 : (ji40) < (t256.length : Int) := of_decide_eq_true (by first | (with_reducible assumption) | assumption)
                                            obtain ⟨ad264, e264, hx264_0, hx264_1⟩ := at_T43 (Kd.R_reads' HO_6.out).2.2 (ji40) p264 q264
                                            obtain rfl : ad262 = ad264 := (by injection e264)
                                            replace p264 := eq_true p264
                                            replace q264 := eq_true q264
                                            go_wp2
                                            repeat (go_quiet (fail); try go_wp2)
                                            go_roundg k4
                                            case measure => have := HJ3.out; have := HK2.out; have := HJ22.out; have := HK4.out; omega
                                            case rel => exact ⟨(wrap64 (x8_4 + 1)), (by first | rfl | (simp; done) | (simp [*]; done)), H', ⟨by have := HJ3.out; have := HK2.out; have := HJ22.out; have := HK4.out; omega⟩, ⟨by (with_reducible repeat (first | apply Kd.R_alloc | apply Kd.R_drewN | apply Kd.R_drew)); exact HO_6.out⟩, ⟨by repeat (first | (with_reducible first | exact HB.out | apply below_alloc | apply pw_below_drewN | apply below_drew1) | exact HB.out)⟩⟩
                                          · rw [if_neg c45] at H
                                            have c45b0 : (((rd_T43 t256 (ji40)).f0) == 1) = false := beq_eq_false_iff_ne.mpr c45
                                            have c45b1 : (((rd_T43 t256 (ji40)).f0) != 1) = true := bne_iff_ne.mpr c45
                                            by_cases c47 : ((rd_T43 t256 (ji40)).f0) = 2
                                            · rw [if_pos c47] at H
                                              have c47b0 : (((rd_T43 t256 (ji40)).f0) == 2) = true := beq_iff_eq.mpr c47
                                              have c47b1 : (((rd_T43 t256 (ji40)).f0) != 2) = false := bne_eq_false_iff_eq.mpr c47
                                              clear c47
                                              have H' := Aside0.mk H
                                              clear H
                                              obtain ⟨Ao48, co48, eo48⟩ := Kd.R_slice HO_6.out
                                              subst eo48
                                              have p262 : 0 ≤ ((ji40) : Int) := of_decide_eq_true (by first | (with_reducible assumption) | assumption)
                                              have q262 : (ji40) < (t256.length : Int) := of_decide_eq_true (by first | (with_reducible assumption) | assumption)
                                              obtain ⟨ad262, e262, hx262_0, hx262_1⟩ := at_T43 (Kd.R_reads' HO_6.out).2.2 (ji40) p262 q262
                                              cases e262
                                              replace p262 := eq_true p262
                                              replace q262 := eq_true q262
                                              have p263 : 0 ≤ (x8_4 : Int) := of_decide_eq_true (by first | (with_reducible assumption) | assumption)
                                              have q263 : x8_4 < (l0.length : Int) := of_decide_eq_true (by first | (with_reducible assumption) | assumption)
                                              obtain ⟨ad263, e263, hx263_0⟩ := Kd.at_string HR0.out x8_4 p263 q263
                                              cases e263
                                              replace hx263_0 := (HB.out.cell (World.block_lt_of_cell? w _ hx263_0)).trans hx263_0
                                              replace p263 := eq_true p263
                                              replace q263 := eq_true q263
                                              have p264 : 0 ≤ ((ji40) : Int) := of_decide_eq_true (by first | (with_reducible assumption) | assumption)
                                              have q264 : (ji40) < (t256.length : Int) := of_decide_eq_true (by first | (with_reducible assumption) | assumption)
                                              obtain ⟨ad264, e264, hx264_0, hx264_1⟩ := at_T43 (Kd.R_reads' HO_6.out).2.2 (ji40) p264 q264
                                              obtain rfl : ad262 = ad264 := (by injection e264)
                                              replace p264 := eq_true p264
                                              replace q264 := eq_true q264
                                              have p265 : 0 ≤ ((ji40) : Int) := of_decide_eq_true (by first | (with_reducible assumption) | assumption)
                                              have q265 : (ji40) < (t256.length : Int) := of_decide_eq_true (by first | (with_reducible assumption) | assumption)
                                              obtain ⟨ad265, e265, hx265_0, hx265_1⟩ := at_T43 (Kd.R_reads' HO_6.out).2.2 (ji40) p265 q265
                                              obtain rfl : ad262 = ad265 := (by injection e265)
                                              replace p265 := eq_true p265
                                              replace q265 := eq_true q265
                                              go_wp2
                                              repeat (go_quiet (fail); try go_wp2)
                                              go_roundg k4
                                              case measure => have := HJ3.out; have := HK2.out; have := HJ22.out; have := HK4.out; omega
                                              case rel => exact ⟨(wrap64 (x8_4 + 1)), (by first | rfl | (simp; done) | (simp [*]; done)), H', ⟨by have := HJ3.out; have := HK2.out; have := HJ22.out; have := HK4.out; omega⟩, ⟨by (with_reducible repeat (first | apply Kd.R_alloc | apply Kd.R_drewN | apply Kd.R_drew)); exact HO_6.out⟩, ⟨by repeat (first | (with_reducible first | exact HB.out | apply below_alloc | apply pw_below_drewN | apply below_drew1) | exact HB.out)⟩⟩
                                            · rw [if_neg c47] at H
                                              have c47b0 : (((rd_T43 t256 (ji40)).f0) == 2) = false := beq_eq_false_iff_ne.mpr c47
                                              have c47b1 : (((rd_T43 t256 (ji40)).f0) != 2) = true := bne_iff_ne.mpr c47
                                              obtain rfl := Option.some.inj H
                                              obtain ⟨Ao49, co49, eo49⟩ := Kd.R_slice HO_6.out
                                              subst eo49
                                              have p262 : 0 ≤ ((ji40) : Int) := of_decide_eq_true (by first | (with_reducible assumption) | assumption)
                                              have q262 : (ji40) < (t256.length : Int) := of_decide_eq_true (by first | (with_reducible assumption) | assumption)
                                              obtain ⟨ad262, e262, hx262_0, hx262_1⟩ := at_T43 (Kd.R_reads' HO_6.out).2.2 (ji40) p262 q262
                                              cases e262
                                              replace p262 := eq_true p262
                                              replace q262 := eq_true q262
                                              have p263 : 0 ≤ (x8_4 : Int) := of_decide_eq_true (by first | (with_reducible assumption) | assumption)
                                              have q263 : x8_4 < (l0.length : Int) := of_decide_eq_true (by first | (with_reducible assumption) | assumption)
                                              obtain ⟨ad263, e263, hx263_0⟩ := Kd.at_string HR0.out x8_4 p263 q263
                                              cases e263
                                              replace hx263_0 := (HB.out.cell (World.block_lt_of_cell? w _ hx263_0)).trans hx263_0
                                              replace p263 := eq_true p263
                                              replace q263 := eq_true q263
                                              have p264 : 0 ≤ ((ji40) : Int) := of_decide_eq_true (by first | (with_reducible assumption) | assumption)
                                              have q264 : (ji40) < (t256.length : Int) := of_decide_eq_true (by first | (with_reducible assumption) | assumption)
                                              obtain ⟨ad264, e264, hx264_0, hx264_1⟩ := at_T43 (Kd.R_reads' HO_6.out).2.2 (ji40) p264 q264
                                              obtain rfl : ad262 = ad264 := (by injection e264)
                                              replace p264 := eq_true p264
                                              replace q264 := eq_true q264
                                              have p265 : 0 ≤ ((ji40) : Int) := of_decide_eq_true (by first | (with_reducible assumption) | assumption)
                                              have q265 : (ji40) < (t256.length : Int) := of_decide_eq_true (by first | (with_reducible assumption) | assumption)
                                              obtain ⟨ad265, e265, hx265_0, hx265_1⟩ := at_T43 (Kd.R_reads' HO_6.out).2.2 (ji40) p265 q265
                                              obtain rfl : ad262 = ad265 := (by injection e265)
                                              replace p265 := eq_true p265
                                              replace q265 := eq_true q265
                                              go_wp2
                                              repeat (go_quiet (fail); try go_wp2)
                                              go_ret
                                              exact ⟨by first | rfl | (simp [errW_none, errW_some] <;> rfl) | (simp only [← hji40]; first | rfl | (simp [errW_none, errW_some] <;> rfl)) | (simp [*, errW_none, errW_some] <;> rfl), by repeat (first | (with_reducible first | exact HB.out | apply below_alloc | apply pw_below_drewN | apply below_drew1) | exact HB.out)⟩
                                        · rw [if_neg c44] at H
                                          have c44b0 : (((rd_T43 t256 (ji40)).f1).toList == (rdOf ByteArray.empty l0 x8_4).toList) = false := beq_eq_false_iff_ne.mpr c44
                                          have c44b1 : (((rd_T43 t256 (ji40)).f1).toList != (rdOf ByteArray.empty l0 x8_4).toList) = true := bne_iff_ne.mpr c44
                                          obtain rfl := Option.some.inj H
                                          obtain ⟨Ao50, co50, eo50⟩ := Kd.R_slice HO_6.out
                                          subst eo50
                                          have p262 : 0 ≤ ((ji40) : Int) := of_decide_eq_true (by first | (with_reducible assumption) | assumption)
                                          have q262 : (ji40) < (t256.length : Int) := of_decide_eq_true (by first | (with_reducible assumption) | assumption)
                                          obtain ⟨ad262, e262, hx262_0, hx262_1⟩ := at_T43 (Kd.R_reads' HO_6.out).2.2 (ji40) p262 q262
                                          cases e262
                                          replace p262 := eq_true p262
                                          replace q262 := eq_true q262
                                          have p263 : 0 ≤ (x8_4 : Int) := of_decide_eq_true (by first | (with_reducible assumption) | assumption)
                                          have q263 : x8_4 < (l0.length : Int) := of_decide_eq_true (by first | (with_reducible assumption) | assumption)
                                          obtain ⟨ad263, e263, hx263_0⟩ := Kd.at_string HR0.out x8_4 p263 q263
                                          cases e263
                                          replace hx263_0 := (HB.out.cell (World.block_lt_of_cell? w _ hx263_0)).trans hx263_0
                                          replace p263 := eq_true p263
                                          replace q263 := eq_true q263
                                          go_wp2
                                          repeat (go_quiet (fail); try go_wp2)
                                          go_ret
                                          exact ⟨by first | rfl | (simp [errW_none, errW_some] <;> rfl) | (simp only [← hji40]; first | rfl | (simp [errW_none, errW_some] <;> rfl)) | (simp [*, errW_none, errW_some] <;> rfl), by repeat (first | (with_reducible first | exact HB.out | apply below_alloc | apply pw_below_drewN | apply below_drew1) | exact HB.out)⟩
                                      · rw [if_neg c43] at H
                                        exact absurd H (by simp)
                                    · rw [if_neg c42] at H
                                      exact absurd H (by simp)
                                  · rw [if_neg c41] at H
                                    exact absurd H (by simp)
                                · rw [if_neg c39] at H
                                  have c39b0 : decide (x8_4 < (l0.length : Int)) = false := decide_eq_false c39
                                  clear c39
                                  obtain rfl := Option.some.inj H
                                  go_wp2
                                  repeat (go_quiet (fail); try go_wp2)
                                  go_ret
                                  exact ⟨by first | rfl | (simp [errW_none, errW_some] <;> rfl) | (simp [*, errW_none, errW_some] <;> rfl), by repeat (first | (with_reducible first | exact HB.out | apply below_alloc | apply pw_below_drewN | apply below_drew1) | exact HB.out)⟩
                    · rw [if_neg c21] at H
                      exact absurd H (by simp)
                  · rw [if_neg c20] at H
                    exact absurd H (by simp)
                · rw [if_neg c19] at H
                  exact absurd H (by simp)
  · replace c3 := Bool.eq_false_iff.mpr c3
    subst c3
    have H1 : (some false) = some r := by rw [if_neg (show ¬ (false = true) by decide)] at H; exact H
    clear H
    have H := H1
    clear H1
    obtain rfl := Option.some.inj H
    go_enter Try.func6, Try.ntmps6
    go_wp2_with (first | (go_at_call 7; (with_reducible refine (letterboxlaw18_awake.calls  false _ A2.out).mono ?_); rintro e w51 ⟨rfl, hb⟩; have n0_ := Aside0.mk (below_step (by repeat (first | (with_reducible first | exact HB.out | apply below_alloc | apply pw_below_drewN | apply below_drew1) | exact HB.out)) hb); clear HB; have HB := n0_; clear n0_; (try clear hb); (try clear hb2); (try clear hk); (try clear hi)))
    repeat (go_quiet (first | (go_at_call 7; (with_reducible refine (letterboxlaw18_awake.calls  false _ A2.out).mono ?_); rintro e w51 ⟨rfl, hb⟩; have n0_ := Aside0.mk (below_step (by repeat (first | (with_reducible first | exact HB.out | apply below_alloc | apply pw_below_drewN | apply below_drew1) | exact HB.out)) hb); clear HB; have HB := n0_; clear n0_; (try clear hb); (try clear hb2); (try clear hk); (try clear hi))); try go_wp2_with (first | (go_at_call 7; (with_reducible refine (letterboxlaw18_awake.calls  false _ A2.out).mono ?_); rintro e w51 ⟨rfl, hb⟩; have n0_ := Aside0.mk (below_step (by repeat (first | (with_reducible first | exact HB.out | apply below_alloc | apply pw_below_drewN | apply below_drew1) | exact HB.out)) hb); clear HB; have HB := n0_; clear n0_; (try clear hb); (try clear hb2); (try clear hk); (try clear hi))))
    go_ret
    exact ⟨by first | rfl | (simp [errW_none, errW_some] <;> rfl) | (simp [*, errW_none, errW_some] <;> rfl), by repeat (first | (with_reducible first | exact HB.out | apply below_alloc | apply pw_below_drewN | apply below_drew1) | exact HB.out)⟩

/-- THE ONE PURE STATEMENT of letterboxlaw18_WireWords: yours. -/
def letterboxlaw18_WireWords.Pure : Prop := ∀ (l0 : List ByteArray), (l0.length ≤ maxLen ∧ l0.length * 16 ≤ 140737488351232 ∧ ∀ x0_ ∈ l0, x0_.size ≤ 140737488351232) → ∃ k, letterboxlaw18_WireWords.f k l0 = some true
theorem letterboxlaw18_WireWords.walk (P : letterboxlaw18_WireWords.Pure) (a0 : Option Addr) (cap0 : Nat) (l0 : List ByteArray) (w : World) (hC0 : Kd.C Kd.string w a0 l0.length l0) (hc0 : l0.length ≤ cap0) (hg0 : (l0.length ≤ maxLen ∧ l0.length * 16 ≤ 140737488351232 ∧ ∀ x0_ ∈ l0, x0_.size ≤ 140737488351232)) :
    Calls Try.prog 6 #[.slice a0 l0.length cap0] w fun e w' => e = .returned (.bool true) ∧ Below w.heap.size w w' := by
  obtain ⟨k, h⟩ := P l0 hg0
  refine (letterboxlaw18_WireWords.calls k _ _ l0 true w hC0 hc0 h).mono ?_
  rintro e w' ⟨rfl, hd⟩
  exact ⟨rfl, hd⟩

end Go.Proofs.Ytmdhggiffdkmfaa.P
