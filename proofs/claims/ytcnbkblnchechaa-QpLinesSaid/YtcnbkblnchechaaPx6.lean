-- Written by a program of this session (wip/tools/mk.sh) for this claim: it runs the kit's print with contracts of our own. Lean checks it.
import Derived.Test.YtcnbkblnchechaaPx0
import Derived.Test.YtcnbkblnchechaaPx5
namespace Go.Proofs.Ytcnbkblnchechaa.P
open Go.RowKit Go.Proofs.YtcnbkblnchechaaW.PrintWords Go.Proofs.YtcnbkblnchechaaW.PrintLast Go.Proofs.YtcnbkblnchechaaW.PrintMore
attribute [local go_sem] max2_int min2_int max_two min_two max_three min_three max_four min_four   -- for this text's walks alone
set_option linter.unusedVariables false
set_option linter.unusedSimpArgs false

/-! ### letterboxref03_Decode: function 9 -/
mutual
def letterboxref03_Decode.l0 : Nat → ByteArray → ByteArray → Option (ByteArray × Bool)
  | 0, _, _ => none
  | k + 1, x0, x4 => if x0.toList = ([] : List UInt8) then (some (x4, true)) else (letterboxref03_Decode.l1 k x0 x4 0)
def letterboxref03_Decode.j2 : Nat → ByteArray → ByteArray → Int → Option (ByteArray × Bool)
  | 0, _, _, _ => none
  | k + 1, x0, x4, x5 => if 0 ≤ x5 then (if x5 ≤ (x0.size : Int) then (if x5 < (x0.size : Int) then (if 0 ≤ (wrap64 (x5 + 1)) then (if (wrap64 (x5 + 1)) ≤ (x0.size : Int) then (if x5 > 0 then (if 0 ≤ (wrap64 (x5 - 1)) then (if (wrap64 (x5 - 1)) < (x0.size : Int) then (if (bt x0 (wrap64 (x5 - 1))) = 13 then (if (wrap64 (x5 - 1)) ≤ (x0.size : Int) then (letterboxref03_Decode.j3 k x4 (x0.extract 0 ((wrap64 (x5 - 1)) : Int).toNat) (⟨#[13, 10]⟩ : ByteArray) (x0.extract ((wrap64 (x5 + 1)) : Int).toNat x0.size)) else (none)) else (letterboxref03_Decode.j3 k x4 (x0.extract 0 (x5 : Int).toNat) (⟨#[10]⟩ : ByteArray) (x0.extract ((wrap64 (x5 + 1)) : Int).toNat x0.size))) else (none)) else (none)) else (letterboxref03_Decode.j3 k x4 (x0.extract 0 (x5 : Int).toNat) (⟨#[10]⟩ : ByteArray) (x0.extract ((wrap64 (x5 + 1)) : Int).toNat x0.size))) else (none)) else (none)) else (letterboxref03_Decode.j3 k x4 (x0.extract 0 (x5 : Int).toNat) (⟨#[]⟩ : ByteArray) (⟨#[]⟩ : ByteArray))) else (none)) else (none)
def letterboxref03_Decode.j3 : Nat → ByteArray → ByteArray → ByteArray → ByteArray → Option (ByteArray × Bool)
  | 0, _, _, _, _ => none
  | k + 1, x4, x6, x7, x8 => letterboxref03_Decode.l2 k x8 x4 x6 x7
def letterboxref03_Decode.j5 : Nat → ByteArray → ByteArray → ByteArray → ByteArray → Option (ByteArray × Bool)
  | 0, _, _, _, _ => none
  | k + 1, x0, x4, x6, x7 => if (x6.size : Int) > 0 then (if 0 ≤ (wrap64 ((x6.size : Int) - 1)) then (if (wrap64 ((x6.size : Int) - 1)) < (x6.size : Int) then (letterboxref03_Decode.j6 k x0 x4 x6 x7 ((bt x6 (wrap64 ((x6.size : Int) - 1))) == 61)) else (none)) else (none)) else (letterboxref03_Decode.j6 k x0 x4 x6 x7 false)
def letterboxref03_Decode.j6 : Nat → ByteArray → ByteArray → ByteArray → ByteArray → Bool → Option (ByteArray × Bool)
  | 0, _, _, _, _, _ => none
  | k + 1, x0, x4, x6, x7, x84 => if x84 = true then (if 0 ≤ (wrap64 ((x6.size : Int) - 1)) then (if (wrap64 ((x6.size : Int) - 1)) ≤ (x6.size : Int) then ((letterboxref03_text.f k (x6.extract 0 ((wrap64 ((x6.size : Int) - 1)) : Int).toNat)).bind fun bt224 => (if bt224.2 = true then (if bt224.1.size + 0 ≤ 9223372036854775807 then (if x4.size + (bt224.1 ++ (⟨#[]⟩ : ByteArray)).size ≤ 9223372036854775807 then (letterboxref03_Decode.l0 k x0 (x4 ++ (bt224.1 ++ (⟨#[]⟩ : ByteArray)))) else (none)) else (none)) else (some ((⟨#[]⟩ : ByteArray), false)))) else (none)) else (none)) else ((letterboxref03_text.f k x6).bind fun bt226 => (if bt226.2 = true then (if bt226.1.size + x7.size ≤ 9223372036854775807 then (if x4.size + (bt226.1 ++ x7).size ≤ 9223372036854775807 then (letterboxref03_Decode.l0 k x0 (x4 ++ (bt226.1 ++ x7))) else (none)) else (none)) else (some ((⟨#[]⟩ : ByteArray), false))))
def letterboxref03_Decode.l2 : Nat → ByteArray → ByteArray → ByteArray → ByteArray → Option (ByteArray × Bool)
  | 0, _, _, _, _ => none
  | k + 1, x0, x4, x6, x7 => if (x6.size : Int) > 0 then (if 0 ≤ (wrap64 ((x6.size : Int) - 1)) then (if (wrap64 ((x6.size : Int) - 1)) < (x6.size : Int) then (if (bt x6 (wrap64 ((x6.size : Int) - 1))) = 32 then (if (wrap64 ((x6.size : Int) - 1)) ≤ (x6.size : Int) then (letterboxref03_Decode.l2 k x0 x4 (x6.extract 0 ((wrap64 ((x6.size : Int) - 1)) : Int).toNat) x7) else (none)) else (if (bt x6 (wrap64 ((x6.size : Int) - 1))) = 9 then (if (wrap64 ((x6.size : Int) - 1)) ≤ (x6.size : Int) then (letterboxref03_Decode.l2 k x0 x4 (x6.extract 0 ((wrap64 ((x6.size : Int) - 1)) : Int).toNat) x7) else (none)) else (letterboxref03_Decode.j5 k x0 x4 x6 x7))) else (none)) else (none)) else (letterboxref03_Decode.j5 k x0 x4 x6 x7)
def letterboxref03_Decode.l1 : Nat → ByteArray → ByteArray → Int → Option (ByteArray × Bool)
  | 0, _, _, _ => none
  | k + 1, x0, x4, x5 => if x5 < (x0.size : Int) then (if 0 ≤ x5 then (if (bt x0 x5) = 10 then (letterboxref03_Decode.j2 k x0 x4 x5) else (letterboxref03_Decode.l1 k x0 x4 (wrap64 (x5 + 1)))) else (none)) else (letterboxref03_Decode.j2 k x0 x4 x5)
end
def letterboxref03_Decode.f (k : Nat) (a0 : ByteArray) : Option (ByteArray × Bool) := letterboxref03_Decode.l0 k a0 (⟨#[]⟩ : ByteArray)
theorem letterboxref03_Decode.mono_l : ∀ k, (∀ y0 y1, LeO (letterboxref03_Decode.l0 k y0 y1) (letterboxref03_Decode.l0 (k + 1) y0 y1)) ∧ (∀ y0 y1 y2, LeO (letterboxref03_Decode.j2 k y0 y1 y2) (letterboxref03_Decode.j2 (k + 1) y0 y1 y2)) ∧ (∀ y0 y1 y2 y3, LeO (letterboxref03_Decode.j3 k y0 y1 y2 y3) (letterboxref03_Decode.j3 (k + 1) y0 y1 y2 y3)) ∧ (∀ y0 y1 y2 y3, LeO (letterboxref03_Decode.j5 k y0 y1 y2 y3) (letterboxref03_Decode.j5 (k + 1) y0 y1 y2 y3)) ∧ (∀ y0 y1 y2 y3 y4, LeO (letterboxref03_Decode.j6 k y0 y1 y2 y3 y4) (letterboxref03_Decode.j6 (k + 1) y0 y1 y2 y3 y4)) ∧ (∀ y0 y1 y2 y3, LeO (letterboxref03_Decode.l2 k y0 y1 y2 y3) (letterboxref03_Decode.l2 (k + 1) y0 y1 y2 y3)) ∧ (∀ y0 y1 y2, LeO (letterboxref03_Decode.l1 k y0 y1 y2) (letterboxref03_Decode.l1 (k + 1) y0 y1 y2))
  | 0 => ⟨fun _ _ r h => by simp [letterboxref03_Decode.l0] at h, fun _ _ _ r h => by simp [letterboxref03_Decode.j2] at h, fun _ _ _ _ r h => by simp [letterboxref03_Decode.j3] at h, fun _ _ _ _ r h => by simp [letterboxref03_Decode.j5] at h, fun _ _ _ _ _ r h => by simp [letterboxref03_Decode.j6] at h, fun _ _ _ _ r h => by simp [letterboxref03_Decode.l2] at h, fun _ _ _ r h => by simp [letterboxref03_Decode.l1] at h⟩
  | k + 1 => by
    obtain ⟨ih0, ih1, ih2, ih3, ih4, ih5, ih6⟩ := letterboxref03_Decode.mono_l k
    refine ⟨?_, ?_, ?_, ?_, ?_, ?_, ?_⟩
    · intro y0 y1
      unfold letterboxref03_Decode.l0
      repeat' first
      | (with_reducible exact ih0 _ _)
      | (with_reducible exact ih1 _ _ _)
      | (with_reducible exact ih2 _ _ _ _)
      | (with_reducible exact ih3 _ _ _ _)
      | (with_reducible exact ih4 _ _ _ _ _)
      | (with_reducible exact ih5 _ _ _ _)
      | (with_reducible exact ih6 _ _ _)
      | (with_reducible exact letterboxref03_text.mono _ _)
      | (with_reducible exact LeO.refl _)
      | (with_reducible exact LeO.none _)
      | (with_reducible refine LeO.ite ?_ ?_)
      | (with_reducible refine LeO.bind ?_ (fun _ => ?_))
      | exact ih0 _ _
      | exact ih1 _ _ _
      | exact ih2 _ _ _ _
      | exact ih3 _ _ _ _
      | exact ih4 _ _ _ _ _
      | exact ih5 _ _ _ _
      | exact ih6 _ _ _
      | exact letterboxref03_text.mono _ _
      | exact LeO.none _
      | refine LeO.ite ?_ ?_
      | refine LeO.bind ?_ (fun _ => ?_)
    · intro y0 y1 y2
      unfold letterboxref03_Decode.j2
      repeat' first
      | (with_reducible exact ih0 _ _)
      | (with_reducible exact ih1 _ _ _)
      | (with_reducible exact ih2 _ _ _ _)
      | (with_reducible exact ih3 _ _ _ _)
      | (with_reducible exact ih4 _ _ _ _ _)
      | (with_reducible exact ih5 _ _ _ _)
      | (with_reducible exact ih6 _ _ _)
      | (with_reducible exact letterboxref03_text.mono _ _)
      | (with_reducible exact LeO.refl _)
      | (with_reducible exact LeO.none _)
      | (with_reducible refine LeO.ite ?_ ?_)
      | (with_reducible refine LeO.bind ?_ (fun _ => ?_))
      | exact ih0 _ _
      | exact ih1 _ _ _
      | exact ih2 _ _ _ _
      | exact ih3 _ _ _ _
      | exact ih4 _ _ _ _ _
      | exact ih5 _ _ _ _
      | exact ih6 _ _ _
      | exact letterboxref03_text.mono _ _
      | exact LeO.none _
      | refine LeO.ite ?_ ?_
      | refine LeO.bind ?_ (fun _ => ?_)
    · intro y0 y1 y2 y3
      unfold letterboxref03_Decode.j3
      repeat' first
      | (with_reducible exact ih0 _ _)
      | (with_reducible exact ih1 _ _ _)
      | (with_reducible exact ih2 _ _ _ _)
      | (with_reducible exact ih3 _ _ _ _)
      | (with_reducible exact ih4 _ _ _ _ _)
      | (with_reducible exact ih5 _ _ _ _)
      | (with_reducible exact ih6 _ _ _)
      | (with_reducible exact letterboxref03_text.mono _ _)
      | (with_reducible exact LeO.refl _)
      | (with_reducible exact LeO.none _)
      | (with_reducible refine LeO.ite ?_ ?_)
      | (with_reducible refine LeO.bind ?_ (fun _ => ?_))
      | exact ih0 _ _
      | exact ih1 _ _ _
      | exact ih2 _ _ _ _
      | exact ih3 _ _ _ _
      | exact ih4 _ _ _ _ _
      | exact ih5 _ _ _ _
      | exact ih6 _ _ _
      | exact letterboxref03_text.mono _ _
      | exact LeO.none _
      | refine LeO.ite ?_ ?_
      | refine LeO.bind ?_ (fun _ => ?_)
    · intro y0 y1 y2 y3
      unfold letterboxref03_Decode.j5
      repeat' first
      | (with_reducible exact ih0 _ _)
      | (with_reducible exact ih1 _ _ _)
      | (with_reducible exact ih2 _ _ _ _)
      | (with_reducible exact ih3 _ _ _ _)
      | (with_reducible exact ih4 _ _ _ _ _)
      | (with_reducible exact ih5 _ _ _ _)
      | (with_reducible exact ih6 _ _ _)
      | (with_reducible exact letterboxref03_text.mono _ _)
      | (with_reducible exact LeO.refl _)
      | (with_reducible exact LeO.none _)
      | (with_reducible refine LeO.ite ?_ ?_)
      | (with_reducible refine LeO.bind ?_ (fun _ => ?_))
      | exact ih0 _ _
      | exact ih1 _ _ _
      | exact ih2 _ _ _ _
      | exact ih3 _ _ _ _
      | exact ih4 _ _ _ _ _
      | exact ih5 _ _ _ _
      | exact ih6 _ _ _
      | exact letterboxref03_text.mono _ _
      | exact LeO.none _
      | refine LeO.ite ?_ ?_
      | refine LeO.bind ?_ (fun _ => ?_)
    · intro y0 y1 y2 y3 y4
      unfold letterboxref03_Decode.j6
      repeat' first
      | (with_reducible exact ih0 _ _)
      | (with_reducible exact ih1 _ _ _)
      | (with_reducible exact ih2 _ _ _ _)
      | (with_reducible exact ih3 _ _ _ _)
      | (with_reducible exact ih4 _ _ _ _ _)
      | (with_reducible exact ih5 _ _ _ _)
      | (with_reducible exact ih6 _ _ _)
      | (with_reducible exact letterboxref03_text.mono _ _)
      | (with_reducible exact LeO.refl _)
      | (with_reducible exact LeO.none _)
      | (with_reducible refine LeO.ite ?_ ?_)
      | (with_reducible refine LeO.bind ?_ (fun _ => ?_))
      | exact ih0 _ _
      | exact ih1 _ _ _
      | exact ih2 _ _ _ _
      | exact ih3 _ _ _ _
      | exact ih4 _ _ _ _ _
      | exact ih5 _ _ _ _
      | exact ih6 _ _ _
      | exact letterboxref03_text.mono _ _
      | exact LeO.none _
      | refine LeO.ite ?_ ?_
      | refine LeO.bind ?_ (fun _ => ?_)
    · intro y0 y1 y2 y3
      unfold letterboxref03_Decode.l2
      repeat' first
      | (with_reducible exact ih0 _ _)
      | (with_reducible exact ih1 _ _ _)
      | (with_reducible exact ih2 _ _ _ _)
      | (with_reducible exact ih3 _ _ _ _)
      | (with_reducible exact ih4 _ _ _ _ _)
      | (with_reducible exact ih5 _ _ _ _)
      | (with_reducible exact ih6 _ _ _)
      | (with_reducible exact letterboxref03_text.mono _ _)
      | (with_reducible exact LeO.refl _)
      | (with_reducible exact LeO.none _)
      | (with_reducible refine LeO.ite ?_ ?_)
      | (with_reducible refine LeO.bind ?_ (fun _ => ?_))
      | exact ih0 _ _
      | exact ih1 _ _ _
      | exact ih2 _ _ _ _
      | exact ih3 _ _ _ _
      | exact ih4 _ _ _ _ _
      | exact ih5 _ _ _ _
      | exact ih6 _ _ _
      | exact letterboxref03_text.mono _ _
      | exact LeO.none _
      | refine LeO.ite ?_ ?_
      | refine LeO.bind ?_ (fun _ => ?_)
    · intro y0 y1 y2
      unfold letterboxref03_Decode.l1
      repeat' first
      | (with_reducible exact ih0 _ _)
      | (with_reducible exact ih1 _ _ _)
      | (with_reducible exact ih2 _ _ _ _)
      | (with_reducible exact ih3 _ _ _ _)
      | (with_reducible exact ih4 _ _ _ _ _)
      | (with_reducible exact ih5 _ _ _ _)
      | (with_reducible exact ih6 _ _ _)
      | (with_reducible exact letterboxref03_text.mono _ _)
      | (with_reducible exact LeO.refl _)
      | (with_reducible exact LeO.none _)
      | (with_reducible refine LeO.ite ?_ ?_)
      | (with_reducible refine LeO.bind ?_ (fun _ => ?_))
      | exact ih0 _ _
      | exact ih1 _ _ _
      | exact ih2 _ _ _ _
      | exact ih3 _ _ _ _
      | exact ih4 _ _ _ _ _
      | exact ih5 _ _ _ _
      | exact ih6 _ _ _
      | exact letterboxref03_text.mono _ _
      | exact LeO.none _
      | refine LeO.ite ?_ ?_
      | refine LeO.bind ?_ (fun _ => ?_)
theorem letterboxref03_Decode.mono : ∀ a0 k, LeO (letterboxref03_Decode.f k a0) (letterboxref03_Decode.f (k + 1) a0) := by
  intro a0 k
  obtain ⟨ih0, ih1, ih2, ih3, ih4, ih5, ih6⟩ := letterboxref03_Decode.mono_l k
  unfold letterboxref03_Decode.f
  repeat' first
      | (with_reducible exact ih0 _ _)
      | (with_reducible exact ih1 _ _ _)
      | (with_reducible exact ih2 _ _ _ _)
      | (with_reducible exact ih3 _ _ _ _)
      | (with_reducible exact ih4 _ _ _ _ _)
      | (with_reducible exact ih5 _ _ _ _)
      | (with_reducible exact ih6 _ _ _)
      | (with_reducible exact letterboxref03_text.mono _ _)
      | (with_reducible exact LeO.refl _)
      | (with_reducible exact LeO.none _)
      | (with_reducible refine LeO.ite ?_ ?_)
      | (with_reducible refine LeO.bind ?_ (fun _ => ?_))
      | exact ih0 _ _
      | exact ih1 _ _ _
      | exact ih2 _ _ _ _
      | exact ih3 _ _ _ _
      | exact ih4 _ _ _ _ _
      | exact ih5 _ _ _ _
      | exact ih6 _ _ _
      | exact letterboxref03_text.mono _ _
      | exact LeO.none _
      | refine LeO.ite ?_ ?_
      | refine LeO.bind ?_ (fun _ => ?_)
set_option maxHeartbeats 8000000 in
set_option maxRecDepth 100000 in
theorem letterboxref03_Decode.calls (k : Nat) (a0 : ByteArray) (r1 : ByteArray) (r2 : Bool) (w : World) (h : letterboxref03_Decode.f k a0 = some (r1, r2)) :
    Calls Try.prog 9 #[.string a0] w fun e w' => e = .returned (.tuple #[.string r1, .bool r2]) ∧ Below w.heap.size w w' := by
  have HB := Aside0.mk (Below.refl w.heap.size w)
  have H : (letterboxref03_Decode.l0 k a0 (⟨#[]⟩ : ByteArray)) = some (r1, r2) := h
  clear h
  have H' := Aside0.mk H
  clear H
  go_enter Try.func9, Try.ntmps9
  go_wp2
  go_loopg [0, 4] k (fun kq v0 v4 w' => ∃ (x0_1 : ByteArray) (x4_1 : ByteArray), v0 = .string x0_1 ∧ v4 = .string x4_1 ∧ Aside0 (letterboxref03_Decode.l0 kq x0_1 x4_1 = some (r1, r2)) ∧ Aside0 (kq ≤ k) ∧ Aside0 (Below w.heap.size w w'))
  case atStart => exact ⟨(a0), ((⟨#[]⟩ : ByteArray)), (by first | rfl | (simp; done) | (simp [*]; done)), (by first | rfl | (simp; done) | (simp [*]; done)), H', ⟨Nat.le_refl _⟩, ⟨by repeat (first | (with_reducible first | exact HB.out | apply below_alloc | apply pw_below_drewN | apply below_drew1) | exact HB.out)⟩⟩
  case round =>
    clear H'
    obtain ⟨x0_1, x4_1, rfl, rfl, HA, HK1, HB⟩ := hrel
    cases gk with
    | zero => exact absurd HA.out (by simp [letterboxref03_Decode.l0])
    | succ k1 =>
      have H := HA.out
      clear HA
      simp only [letterboxref03_Decode.l0] at H
      by_cases c2 : x0_1.toList = ([] : List UInt8)
      · rw [if_pos c2] at H
        have c2b0 : (x0_1.toList == ([] : List UInt8)) = true := beq_iff_eq.mpr c2
        have c2b1 : (x0_1.toList != ([] : List UInt8)) = false := bne_eq_false_iff_eq.mpr c2
        clear c2
        simp only [Option.some.injEq, Prod.mk.injEq] at H
        obtain ⟨rfl, rfl⟩ := H
        go_wp2
        go_ret2
        exact ⟨by first | rfl | (simp [errW_none, errW_some] <;> rfl) | (simp [*, errW_none, errW_some] <;> rfl), by repeat (first | (with_reducible first | exact HB.out | apply below_alloc | apply pw_below_drewN | apply below_drew1) | exact HB.out)⟩
      · rw [if_neg c2] at H
        have c2b0 : (x0_1.toList == ([] : List UInt8)) = false := beq_eq_false_iff_ne.mpr c2
        have c2b1 : (x0_1.toList != ([] : List UInt8)) = true := bne_iff_ne.mpr c2
        have HC3 := Aside0.mk H
        clear H
        go_upto_block 2 with (fail)
        go_cut [5] (fun v5 wc => ∃ (kq : Nat) (x5_2 : Int), v5 = .int .i64 x5_2 ∧ Aside0 (letterboxref03_Decode.j2 kq x0_1 x4_1 x5_2 = some (r1, r2)) ∧ Aside0 (kq ≤ k1) ∧ Aside0 (Below w.heap.size w wc))
        case first =>
          have H := HC3.out
          clear HC3
          have H' := Aside0.mk H
          clear H
          go_wp2
          go_loopg [5] k1 (fun kq v5 w' => ∃ (x5_2 : Int), v5 = .int .i64 x5_2 ∧ Aside0 (letterboxref03_Decode.l1 kq x0_1 x4_1 x5_2 = some (r1, r2)) ∧ Aside0 (kq ≤ k1) ∧ Aside0 (Below w.heap.size w w'))
          case atStart => exact ⟨(0), (by first | rfl | (simp; done) | (simp [*]; done)), H', ⟨Nat.le_refl _⟩, ⟨by repeat (first | (with_reducible first | exact HB.out | apply below_alloc | apply pw_below_drewN | apply below_drew1) | exact HB.out)⟩⟩
          case round =>
            clear H'
            try clear c2
            try clear c2b0
            try clear c2b1
            try clear p2
            obtain ⟨x5_2, rfl, HA, HK2, HB⟩ := hrel
            cases gk with
            | zero => exact absurd HA.out (by simp [letterboxref03_Decode.l1])
            | succ k2 =>
              have H := HA.out
              clear HA
              simp only [letterboxref03_Decode.l1] at H
              by_cases c4 : x5_2 < (x0_1.size : Int)
              · rw [if_pos c4] at H
                have c4b0 : decide (x5_2 < (x0_1.size : Int)) = true := decide_eq_true c4
                clear c4
                (first | rw [c4b0] | (simp only [i64_w, i32_w]; rw [c4b0]) | skip)
                by_cases c5 : 0 ≤ x5_2
                · rw [if_pos c5] at H
                  have c5b0 : decide (0 ≤ x5_2) = true := decide_eq_true c5
                  clear c5
                  by_cases c7 : (bt x0_1 x5_2) = 10
                  · rw [if_pos c7] at H
                    have c7b0 : ((bt x0_1 x5_2) == 10) = true := beq_iff_eq.mpr c7
                    have c7b1 : ((bt x0_1 x5_2) != 10) = false := bne_eq_false_iff_eq.mpr c7
                    clear c7
                    have H' := Aside0.mk H
                    clear H
                    have p6 : 0 ≤ (x5_2 : Int) := of_decide_eq_true (by first | (with_reducible assumption) | assumption)
                    have q6 : x5_2 < (x0_1.size : Int) := of_decide_eq_true (by first | (with_reducible assumption) | assumption)
                    have hx6 := bt_at x0_1 x5_2
                    replace p6 := eq_true p6
                    replace q6 := eq_true q6
                    go_wp2
                    go_meet
                    case rel => exact ⟨_, (x5_2), (by first | rfl | (simp; done) | (simp [*]; done)), H', ⟨by have := HK1.out; have := HK2.out; first | omega | exact Nat.le_refl _⟩, ⟨by repeat (first | (with_reducible first | exact HB.out | apply below_alloc | apply pw_below_drewN | apply below_drew1) | exact HB.out)⟩⟩
                  · rw [if_neg c7] at H
                    have c7b0 : ((bt x0_1 x5_2) == 10) = false := beq_eq_false_iff_ne.mpr c7
                    have c7b1 : ((bt x0_1 x5_2) != 10) = true := bne_iff_ne.mpr c7
                    have H' := Aside0.mk H
                    clear H
                    have p6 : 0 ≤ (x5_2 : Int) := of_decide_eq_true (by first | (with_reducible assumption) | assumption)
                    have q6 : x5_2 < (x0_1.size : Int) := of_decide_eq_true (by first | (with_reducible assumption) | assumption)
                    have hx6 := bt_at x0_1 x5_2
                    replace p6 := eq_true p6
                    replace q6 := eq_true q6
                    go_wp2
                    go_roundg k2
                    case measure => have := HK1.out; have := HK2.out; omega
                    case rel => exact ⟨(wrap64 (x5_2 + 1)), (by first | rfl | (simp; done) | (simp [*]; done)), H', ⟨by have := HK1.out; have := HK2.out; omega⟩, ⟨by repeat (first | (with_reducible first | exact HB.out | apply below_alloc | apply pw_below_drewN | apply below_drew1) | exact HB.out)⟩⟩
                · rw [if_neg c5] at H
                  exact absurd H (by simp)
              · rw [if_neg c4] at H
                have c4b0 : decide (x5_2 < (x0_1.size : Int)) = false := decide_eq_false c4
                clear c4
                (first | rw [c4b0] | (simp only [i64_w, i32_w]; rw [c4b0]) | skip)
                have H' := Aside0.mk H
                clear H
                go_wp2
                go_meet
                case rel => exact ⟨_, (x5_2), (by first | rfl | (simp; done) | (simp [*]; done)), H', ⟨by have := HK1.out; have := HK2.out; first | omega | exact Nat.le_refl _⟩, ⟨by repeat (first | (with_reducible first | exact HB.out | apply below_alloc | apply pw_below_drewN | apply below_drew1) | exact HB.out)⟩⟩
        case rest =>
          clear HC3
          try clear c2
          try clear c2b0
          try clear c2b1
          try clear p2
          try clear c4
          try clear c4b0
          try clear c5
          try clear c5b0
          try clear p6
          try clear q6
          try clear hx6
          try clear c7
          try clear c7b0
          try clear c7b1
          try clear p2
          try clear p6
          try clear q6
          obtain ⟨kq, x5_2, rfl, HA, HJ2, HB⟩ := hcut
          cases kq with
          | zero => exact absurd HA.out (by simp [letterboxref03_Decode.j2])
          | succ kj2 =>
            have H := HA.out
            clear HA
            simp only [letterboxref03_Decode.j2] at H
            by_cases c8 : 0 ≤ x5_2
            · rw [if_pos c8] at H
              have c8b0 := eq_true c8
              have c8b1 : decide (0 ≤ x5_2) = true := decide_eq_true c8
              clear c8
              by_cases c9 : x5_2 ≤ (x0_1.size : Int)
              · rw [if_pos c9] at H
                have c9b0 := eq_true c9
                have c9b1 : decide (x5_2 ≤ (x0_1.size : Int)) = true := decide_eq_true c9
                clear c9
                have HC10 := Aside0.mk H
                clear H
                go_upto_if 31 with (fail)
                go_cut [6, 7, 8] (fun v6 v7 v8 wc => ∃ (kq : Nat) (x6_9 : ByteArray) (x7_9 : ByteArray) (x8_9 : ByteArray), v6 = .string x6_9 ∧ v7 = .string x7_9 ∧ v8 = .string x8_9 ∧ Aside0 (letterboxref03_Decode.j3 kq x4_1 x6_9 x7_9 x8_9 = some (r1, r2)) ∧ Aside0 (kq ≤ kj2) ∧ Aside0 (Below w.heap.size w wc))
                case first =>
                  have H := HC10.out
                  clear HC10
                  by_cases c11 : x5_2 < (x0_1.size : Int)
                  · rw [if_pos c11] at H
                    have c11b0 : decide (x5_2 < (x0_1.size : Int)) = true := decide_eq_true c11
                    clear c11
                    (first | rw [c11b0] | (simp only [i64_w, i32_w]; rw [c11b0]) | skip)
                    obtain ⟨ji12, hji12⟩ : ∃ j_ : Int, (wrap64 (x5_2 + 1)) = j_ := ⟨_, rfl⟩
                    replace H : (if 0 ≤ (ji12) then (if (ji12) ≤ (x0_1.size : Int) then (if x5_2 > 0 then (if 0 ≤ (wrap64 (x5_2 - 1)) then (if (wrap64 (x5_2 - 1)) < (x0_1.size : Int) then (if (bt x0_1 (wrap64 (x5_2 - 1))) = 13 then (if (wrap64 (x5_2 - 1)) ≤ (x0_1.size : Int) then (letterboxref03_Decode.j3 kj2 x4_1 (x0_1.extract 0 ((wrap64 (x5_2 - 1)) : Int).toNat) (⟨#[13, 10]⟩ : ByteArray) (x0_1.extract ((ji12) : Int).toNat x0_1.size)) else (none)) else (letterboxref03_Decode.j3 kj2 x4_1 (x0_1.extract 0 (x5_2 : Int).toNat) (⟨#[10]⟩ : ByteArray) (x0_1.extract ((ji12) : Int).toNat x0_1.size))) else (none)) else (none)) else (letterboxref03_Decode.j3 kj2 x4_1 (x0_1.extract 0 (x5_2 : Int).toNat) (⟨#[10]⟩ : ByteArray) (x0_1.extract ((ji12) : Int).toNat x0_1.size))) else (none)) else (none)) = some (r1, r2) := by first | (rw [hji12] at H; exact H) | (simp only [hji12] at H ⊢; exact H)
                    have hji12w : (IntKind.i64.wrap (x5_2 + 1)) = ji12 := (i64_w _).trans hji12
                    by_cases c13 : 0 ≤ (ji12)
                    · rw [if_pos c13] at H
                      have c13b0 := eq_true c13
                      have c13b1 : decide (0 ≤ (ji12)) = true := decide_eq_true c13
                      clear c13
                      by_cases c14 : (ji12) ≤ (x0_1.size : Int)
                      · rw [if_pos c14] at H
                        have c14b0 := eq_true c14
                        have c14b1 : decide ((ji12) ≤ (x0_1.size : Int)) = true := decide_eq_true c14
                        clear c14
                        by_cases c15 : x5_2 > 0
                        · rw [if_pos c15] at H
                          have c15b0 : decide (0 < x5_2) = true := decide_eq_true c15
                          clear c15
                          obtain ⟨ji16, hji16⟩ : ∃ j_ : Int, (wrap64 (x5_2 - 1)) = j_ := ⟨_, rfl⟩
                          replace H : (if 0 ≤ (ji16) then (if (ji16) < (x0_1.size : Int) then (if (bt x0_1 (ji16)) = 13 then (if (ji16) ≤ (x0_1.size : Int) then (letterboxref03_Decode.j3 kj2 x4_1 (x0_1.extract 0 ((ji16) : Int).toNat) (⟨#[13, 10]⟩ : ByteArray) (x0_1.extract ((ji12) : Int).toNat x0_1.size)) else (none)) else (letterboxref03_Decode.j3 kj2 x4_1 (x0_1.extract 0 (x5_2 : Int).toNat) (⟨#[10]⟩ : ByteArray) (x0_1.extract ((ji12) : Int).toNat x0_1.size))) else (none)) else (none)) = some (r1, r2) := by first | (rw [hji16] at H; exact H) | (simp only [hji16] at H ⊢; exact H)
                          have hji16w : (IntKind.i64.wrap (x5_2 - 1)) = ji16 := (i64_w _).trans hji16
                          by_cases c17 : 0 ≤ (ji16)
                          · rw [if_pos c17] at H
                            have c17b0 : decide (0 ≤ (ji16)) = true := decide_eq_true c17
                            clear c17
                            by_cases c18 : (ji16) < (x0_1.size : Int)
                            · rw [if_pos c18] at H
                              have c18b0 : decide ((ji16) < (x0_1.size : Int)) = true := decide_eq_true c18
                              clear c18
                              by_cases c20 : (bt x0_1 (ji16)) = 13
                              · rw [if_pos c20] at H
                                have c20b0 : ((bt x0_1 (ji16)) == 13) = true := beq_iff_eq.mpr c20
                                have c20b1 : ((bt x0_1 (ji16)) != 13) = false := bne_eq_false_iff_eq.mpr c20
                                clear c20
                                have c21b0 := eq_true (of_decide_eq_true (by first | (with_reducible assumption) | assumption) : 0 ≤ (ji16))
                                by_cases c22 : (ji16) ≤ (x0_1.size : Int)
                                · rw [if_pos c22] at H
                                  have c22b0 := eq_true c22
                                  have c22b1 : decide ((ji16) ≤ (x0_1.size : Int)) = true := decide_eq_true c22
                                  clear c22
                                  have H' := Aside0.mk H
                                  clear H
                                  have p19 : 0 ≤ ((ji16) : Int) := of_decide_eq_true (by first | (with_reducible assumption) | assumption)
                                  have q19 : (ji16) < (x0_1.size : Int) := of_decide_eq_true (by first | (with_reducible assumption) | assumption)
                                  have hx19 := bt_at x0_1 (ji16)
                                  replace p19 := eq_true p19
                                  replace q19 := eq_true q19
                                  go_wp2
                                  go_meet
                                  case rel => exact ⟨_, (x0_1.extract 0 ((ji16) : Int).toNat), ((⟨#[13, 10]⟩ : ByteArray)), (x0_1.extract ((ji12) : Int).toNat x0_1.size), (by first | rfl | (simp; done) | (simp only [← hji16] <;> (first | rfl | simp)) | (simp [*]; done)), (by first | rfl | (simp; done) | (simp [*]; done)), (by first | rfl | (simp; done) | (simp only [← hji12] <;> (first | rfl | simp)) | (simp [*]; done)), (by first | exact H' | (rw [hji16]; exact H') | (rw [hji12]; exact H')), ⟨by have := HK1.out; have := HJ2.out; first | omega | exact Nat.le_refl _⟩, ⟨by repeat (first | (with_reducible first | exact HB.out | apply below_alloc | apply pw_below_drewN | apply below_drew1) | exact HB.out)⟩⟩
                                · rw [if_neg c22] at H
                                  exact absurd H (by simp)
                              · rw [if_neg c20] at H
                                have c20b0 : ((bt x0_1 (ji16)) == 13) = false := beq_eq_false_iff_ne.mpr c20
                                have c20b1 : ((bt x0_1 (ji16)) != 13) = true := bne_iff_ne.mpr c20
                                have H' := Aside0.mk H
                                clear H
                                have p19 : 0 ≤ ((ji16) : Int) := of_decide_eq_true (by first | (with_reducible assumption) | assumption)
                                have q19 : (ji16) < (x0_1.size : Int) := of_decide_eq_true (by first | (with_reducible assumption) | assumption)
                                have hx19 := bt_at x0_1 (ji16)
                                replace p19 := eq_true p19
                                replace q19 := eq_true q19
                                go_wp2
                                go_meet
                                case rel => exact ⟨_, (x0_1.extract 0 (x5_2 : Int).toNat), ((⟨#[10]⟩ : ByteArray)), (x0_1.extract ((ji12) : Int).toNat x0_1.size), (by first | rfl | (simp; done) | (simp [*]; done)), (by first | rfl | (simp; done) | (simp [*]; done)), (by first | rfl | (simp; done) | (simp only [← hji12] <;> (first | rfl | simp)) | (simp [*]; done)), (by first | exact H' | (rw [hji16]; exact H') | (rw [hji12]; exact H')), ⟨by have := HK1.out; have := HJ2.out; first | omega | exact Nat.le_refl _⟩, ⟨by repeat (first | (with_reducible first | exact HB.out | apply below_alloc | apply pw_below_drewN | apply below_drew1) | exact HB.out)⟩⟩
                            · rw [if_neg c18] at H
                              exact absurd H (by simp)
                          · rw [if_neg c17] at H
                            exact absurd H (by simp)
                        · rw [if_neg c15] at H
                          have c15b0 : decide (0 < x5_2) = false := decide_eq_false c15
                          clear c15
                          have H' := Aside0.mk H
                          clear H
                          go_wp2
                          go_meet
                          case rel => exact ⟨_, (x0_1.extract 0 (x5_2 : Int).toNat), ((⟨#[10]⟩ : ByteArray)), (x0_1.extract ((ji12) : Int).toNat x0_1.size), (by first | rfl | (simp; done) | (simp [*]; done)), (by first | rfl | (simp; done) | (simp [*]; done)), (by first | rfl | (simp; done) | (simp only [← hji12] <;> (first | rfl | simp)) | (simp [*]; done)), (by first | exact H' | (rw [hji16]; exact H') | (rw [hji12]; exact H')), ⟨by have := HK1.out; have := HJ2.out; first | omega | exact Nat.le_refl _⟩, ⟨by repeat (first | (with_reducible first | exact HB.out | apply below_alloc | apply pw_below_drewN | apply below_drew1) | exact HB.out)⟩⟩
                      · rw [if_neg c14] at H
                        exact absurd H (by simp)
                    · rw [if_neg c13] at H
                      exact absurd H (by simp)
                  · rw [if_neg c11] at H
                    have c11b0 : decide (x5_2 < (x0_1.size : Int)) = false := decide_eq_false c11
                    clear c11
                    (first | rw [c11b0] | (simp only [i64_w, i32_w]; rw [c11b0]) | skip)
                    have H' := Aside0.mk H
                    clear H
                    go_wp2
                    go_meet
                    case rel => exact ⟨_, (x0_1.extract 0 (x5_2 : Int).toNat), ((⟨#[]⟩ : ByteArray)), ((⟨#[]⟩ : ByteArray)), (by first | rfl | (simp; done) | (simp [*]; done)), (by first | rfl | (simp; done) | (simp [*]; done)), (by first | rfl | (simp; done) | (simp [*]; done)), (by first | exact H' | (rw [hji16]; exact H') | (rw [hji12]; exact H')), ⟨by have := HK1.out; have := HJ2.out; first | omega | exact Nat.le_refl _⟩, ⟨by repeat (first | (with_reducible first | exact HB.out | apply below_alloc | apply pw_below_drewN | apply below_drew1) | exact HB.out)⟩⟩
                case rest =>
                  clear HC10
                  try clear c1
                  try clear p1
                  try clear q1
                  try clear hx1
                  try clear c2
                  try clear c2b0
                  try clear c2b1
                  try clear p2
                  try clear c4
                  try clear c4b0
                  try clear c5
                  try clear c5b0
                  try clear p6
                  try clear q6
                  try clear hx6
                  try clear c7
                  try clear c7b0
                  try clear c7b1
                  try clear c8
                  try clear c8b0
                  try clear c8b1
                  try clear c9
                  try clear c9b0
                  try clear c9b1
                  try clear c11
                  try clear c11b0
                  try clear c13
                  try clear c13b0
                  try clear c13b1
                  try clear c14
                  try clear c14b0
                  try clear c14b1
                  try clear c15
                  try clear c15b0
                  try clear c17
                  try clear c17b0
                  try clear c18
                  try clear c18b0
                  try clear p19
                  try clear q19
                  try clear hx19
                  try clear c20
                  try clear c20b0
                  try clear c20b1
                  try clear c21
                  try clear c21b0
                  try clear c22
                  try clear c22b0
                  try clear c22b1
                  try clear p19
                  try clear p2
                  try clear p6
                  try clear q19
                  try clear q6
                  obtain ⟨kq, x6_9, x7_9, x8_9, rfl, rfl, rfl, HA, HJ9, HB⟩ := hcut
                  cases kq with
                  | zero => exact absurd HA.out (by simp [letterboxref03_Decode.j3])
                  | succ kj9 =>
                    have H := HA.out
                    clear HA
                    simp only [letterboxref03_Decode.j3] at H
                    have HC23 := Aside0.mk H
                    clear H
                    go_upto_block 4 with (fail)
                    go_cut [6] (fun v6 wc => ∃ (kq : Nat) (x6_22 : ByteArray), v6 = .string x6_22 ∧ Aside0 (letterboxref03_Decode.j5 kq x8_9 x4_1 x6_22 x7_9 = some (r1, r2)) ∧ Aside0 (kq ≤ kj9) ∧ Aside0 (Below w.heap.size w wc))
                    case first =>
                      have H := HC23.out
                      clear HC23
                      have H' := Aside0.mk H
                      clear H
                      go_wp2
                      go_loopg [6] kj9 (fun kq v6 w' => ∃ (x6_4 : ByteArray), v6 = .string x6_4 ∧ Aside0 (letterboxref03_Decode.l2 kq x8_9 x4_1 x6_4 x7_9 = some (r1, r2)) ∧ Aside0 (kq ≤ kj9) ∧ Aside0 (Below w.heap.size w w'))
                      case atStart => exact ⟨(x6_9), (by first | rfl | (simp; done) | (simp [*]; done)), H', ⟨Nat.le_refl _⟩, ⟨by repeat (first | (with_reducible first | exact HB.out | apply below_alloc | apply pw_below_drewN | apply below_drew1) | exact HB.out)⟩⟩
                      case round =>
                        clear H'
                        try clear c1
                        try clear p1
                        try clear q1
                        try clear hx1
                        try clear c2
                        try clear c2b0
                        try clear c2b1
                        try clear p2
                        try clear c4
                        try clear c4b0
                        try clear c5
                        try clear c5b0
                        try clear p6
                        try clear q6
                        try clear hx6
                        try clear c7
                        try clear c7b0
                        try clear c7b1
                        try clear c8
                        try clear c8b0
                        try clear c8b1
                        try clear c9
                        try clear c9b0
                        try clear c9b1
                        try clear c11
                        try clear c11b0
                        try clear c13
                        try clear c13b0
                        try clear c13b1
                        try clear c14
                        try clear c14b0
                        try clear c14b1
                        try clear c15
                        try clear c15b0
                        try clear c17
                        try clear c17b0
                        try clear c18
                        try clear c18b0
                        try clear p19
                        try clear q19
                        try clear hx19
                        try clear c20
                        try clear c20b0
                        try clear c20b1
                        try clear c21
                        try clear c21b0
                        try clear c22
                        try clear c22b0
                        try clear c22b1
                        try clear p1
                        try clear p19
                        try clear p2
                        try clear p6
                        try clear q1
                        try clear q19
                        try clear q6
                        obtain ⟨x6_4, rfl, HA, HK4, HB⟩ := hrel
                        cases gk with
                        | zero => exact absurd HA.out (by simp [letterboxref03_Decode.l2])
                        | succ k4 =>
                          have H := HA.out
                          clear HA
                          simp only [letterboxref03_Decode.l2] at H
                          by_cases c24 : (x6_4.size : Int) > 0
                          · rw [if_pos c24] at H
                            have c24b0 : decide (0 < (x6_4.size : Int)) = true := decide_eq_true c24
                            have c24b1 : decide (0 < x6_4.size) = true := decide_eq_true (by omega)
                            clear c24
                            (first | rw [c24b0] | (simp only [i64_w, i32_w]; rw [c24b0]) | skip)
                            obtain ⟨ji25, hji25⟩ : ∃ j_ : Int, (wrap64 ((x6_4.size : Int) - 1)) = j_ := ⟨_, rfl⟩
                            replace H : (if 0 ≤ (ji25) then (if (ji25) < (x6_4.size : Int) then (if (bt x6_4 (ji25)) = 32 then (if (ji25) ≤ (x6_4.size : Int) then (letterboxref03_Decode.l2 k4 x8_9 x4_1 (x6_4.extract 0 ((ji25) : Int).toNat) x7_9) else (none)) else (if (bt x6_4 (ji25)) = 9 then (if (ji25) ≤ (x6_4.size : Int) then (letterboxref03_Decode.l2 k4 x8_9 x4_1 (x6_4.extract 0 ((ji25) : Int).toNat) x7_9) else (none)) else (letterboxref03_Decode.j5 k4 x8_9 x4_1 x6_4 x7_9))) else (none)) else (none)) = some (r1, r2) := by first | (rw [hji25] at H; exact H) | (simp only [hji25] at H ⊢; exact H)
                            have hji25w : (IntKind.i64.wrap ((x6_4.size : Int) - 1)) = ji25 := (i64_w _).trans hji25
                            by_cases c26 : 0 ≤ (ji25)
                            · rw [if_pos c26] at H
                              have c26b0 : decide (0 ≤ (ji25)) = true := decide_eq_true c26
                              clear c26
                              by_cases c27 : (ji25) < (x6_4.size : Int)
                              · rw [if_pos c27] at H
                                have c27b0 : decide ((ji25) < (x6_4.size : Int)) = true := decide_eq_true c27
                                clear c27
                                by_cases c29 : (bt x6_4 (ji25)) = 32
                                · rw [if_pos c29] at H
                                  have c29b0 : ((bt x6_4 (ji25)) == 32) = true := beq_iff_eq.mpr c29
                                  have c29b1 : ((bt x6_4 (ji25)) != 32) = false := bne_eq_false_iff_eq.mpr c29
                                  clear c29
                                  have c30b0 := eq_true (of_decide_eq_true (by first | (with_reducible assumption) | assumption) : 0 ≤ (ji25))
                                  by_cases c31 : (ji25) ≤ (x6_4.size : Int)
                                  · rw [if_pos c31] at H
                                    have c31b0 := eq_true c31
                                    have c31b1 : decide ((ji25) ≤ (x6_4.size : Int)) = true := decide_eq_true c31
                                    clear c31
                                    have H' := Aside0.mk H
                                    clear H
                                    have p28 : 0 ≤ ((ji25) : Int) := of_decide_eq_true (by first | (with_reducible assumption) | assumption)
                                    have q28 : (ji25) < (x6_4.size : Int) := of_decide_eq_true (by first | (with_reducible assumption) | assumption)
                                    have hx28 := bt_at x6_4 (ji25)
                                    replace p28 := eq_true p28
                                    replace q28 := eq_true q28
                                    go_wp2
                                    go_roundg k4
                                    case measure => have := HK1.out; have := HJ2.out; have := HJ9.out; have := HK4.out; omega
                                    case rel => exact ⟨(x6_4.extract 0 ((ji25) : Int).toNat), (by first | rfl | (simp; done) | (simp only [← hji25] <;> (first | rfl | simp)) | (simp [*]; done)), H', ⟨by have := HK1.out; have := HJ2.out; have := HJ9.out; have := HK4.out; omega⟩, ⟨by repeat (first | (with_reducible first | exact HB.out | apply below_alloc | apply pw_below_drewN | apply below_drew1) | exact HB.out)⟩⟩
                                  · rw [if_neg c31] at H
                                    exact absurd H (by simp)
                                · rw [if_neg c29] at H
                                  have c29b0 : ((bt x6_4 (ji25)) == 32) = false := beq_eq_false_iff_ne.mpr c29
                                  have c29b1 : ((bt x6_4 (ji25)) != 32) = true := bne_iff_ne.mpr c29
                                  by_cases c33 : (bt x6_4 (ji25)) = 9
                                  · rw [if_pos c33] at H
                                    have c33b0 : ((bt x6_4 (ji25)) == 9) = true := beq_iff_eq.mpr c33
                                    have c33b1 : ((bt x6_4 (ji25)) != 9) = false := bne_eq_false_iff_eq.mpr c33
                                    clear c33
                                    have c34b0 := eq_true (of_decide_eq_true (by first | (with_reducible assumption) | assumption) : 0 ≤ (ji25))
                                    by_cases c35 : (ji25) ≤ (x6_4.size : Int)
                                    · rw [if_pos c35] at H
                                      have c35b0 := eq_true c35
                                      have c35b1 : decide ((ji25) ≤ (x6_4.size : Int)) = true := decide_eq_true c35
                                      clear c35
                                      have H' := Aside0.mk H
                                      clear H
                                      have p28 : 0 ≤ ((ji25) : Int) := of_decide_eq_true (by first | (with_reducible assumption) | assumption)
                                      have q28 : (ji25) < (x6_4.size : Int) := of_decide_eq_true (by first | (with_reducible assumption) | assumption)
                                      have hx28 := bt_at x6_4 (ji25)
                                      replace p28 := eq_true p28
                                      replace q28 := eq_true q28
                                      have p32 : 0 ≤ ((ji25) : Int) := of_decide_eq_true (by first | (with_reducible assumption) | assumption)
                                      have q32 : (ji25) < (x6_4.size : Int) := of_decide_eq_true (by first | (with_reducible assumption) | assumption)
                                      have hx32 := bt_at x6_4 (ji25)
                                      replace p32 := eq_true p32
                                      replace q32 := eq_true q32
                                      go_wp2
                                      go_roundg k4
                                      case measure => have := HK1.out; have := HJ2.out; have := HJ9.out; have := HK4.out; omega
                                      case rel => exact ⟨(x6_4.extract 0 ((ji25) : Int).toNat), (by first | rfl | (simp; done) | (simp only [← hji25] <;> (first | rfl | simp)) | (simp [*]; done)), H', ⟨by have := HK1.out; have := HJ2.out; have := HJ9.out; have := HK4.out; omega⟩, ⟨by repeat (first | (with_reducible first | exact HB.out | apply below_alloc | apply pw_below_drewN | apply below_drew1) | exact HB.out)⟩⟩
                                    · rw [if_neg c35] at H
                                      exact absurd H (by simp)
                                  · rw [if_neg c33] at H
                                    have c33b0 : ((bt x6_4 (ji25)) == 9) = false := beq_eq_false_iff_ne.mpr c33
                                    have c33b1 : ((bt x6_4 (ji25)) != 9) = true := bne_iff_ne.mpr c33
                                    have H' := Aside0.mk H
                                    clear H
                                    have p28 : 0 ≤ ((ji25) : Int) := of_decide_eq_true (by first | (with_reducible assumption) | assumption)
                                    have q28 : (ji25) < (x6_4.size : Int) := of_decide_eq_true (by first | (with_reducible assumption) | assumption)
                                    have hx28 := bt_at x6_4 (ji25)
                                    replace p28 := eq_true p28
                                    replace q28 := eq_true q28
                                    have p32 : 0 ≤ ((ji25) : Int) := of_decide_eq_true (by first | (with_reducible assumption) | assumption)
                                    have q32 : (ji25) < (x6_4.size : Int) := of_decide_eq_true (by first | (with_reducible assumption) | assumption)
                                    have hx32 := bt_at x6_4 (ji25)
                                    replace p32 := eq_true p32
                                    replace q32 := eq_true q32
                                    go_wp2
                                    go_meet
                                    case rel => exact ⟨_, (x6_4), (by first | rfl | (simp; done) | (simp [*]; done)), (by first | exact H' | (rw [hji25]; exact H') | (rw [hji16]; exact H') | (rw [hji12]; exact H')), ⟨by have := HK1.out; have := HJ2.out; have := HJ9.out; have := HK4.out; first | omega | exact Nat.le_refl _⟩, ⟨by repeat (first | (with_reducible first | exact HB.out | apply below_alloc | apply pw_below_drewN | apply below_drew1) | exact HB.out)⟩⟩
                              · rw [if_neg c27] at H
                                exact absurd H (by simp)
                            · rw [if_neg c26] at H
                              exact absurd H (by simp)
                          · rw [if_neg c24] at H
                            have c24b0 : decide (0 < (x6_4.size : Int)) = false := decide_eq_false c24
                            have c24b1 : decide (0 < x6_4.size) = false := decide_eq_false (by omega)
                            clear c24
                            (first | rw [c24b0] | (simp only [i64_w, i32_w]; rw [c24b0]) | skip)
                            have H' := Aside0.mk H
                            clear H
                            go_wp2
                            go_meet
                            case rel => exact ⟨_, (x6_4), (by first | rfl | (simp; done) | (simp [*]; done)), (by first | exact H' | (rw [hji25]; exact H') | (rw [hji16]; exact H') | (rw [hji12]; exact H')), ⟨by have := HK1.out; have := HJ2.out; have := HJ9.out; have := HK4.out; first | omega | exact Nat.le_refl _⟩, ⟨by repeat (first | (with_reducible first | exact HB.out | apply below_alloc | apply pw_below_drewN | apply below_drew1) | exact HB.out)⟩⟩
                    case rest =>
                      clear HC23
                      try clear c1
                      try clear p1
                      try clear q1
                      try clear hx1
                      try clear c2
                      try clear c2b0
                      try clear c2b1
                      try clear p2
                      try clear q2
                      try clear hx2
                      try clear c3
                      try clear p3
                      try clear q3
                      try clear hx3
                      try clear c4
                      try clear c4b0
                      try clear c5
                      try clear c5b0
                      try clear p6
                      try clear q6
                      try clear hx6
                      try clear c7
                      try clear c7b0
                      try clear c7b1
                      try clear c8
                      try clear c8b0
                      try clear c8b1
                      try clear c9
                      try clear c9b0
                      try clear c9b1
                      try clear c11
                      try clear c11b0
                      try clear c13
                      try clear c13b0
                      try clear c13b1
                      try clear c14
                      try clear c14b0
                      try clear c14b1
                      try clear c15
                      try clear c15b0
                      try clear c17
                      try clear c17b0
                      try clear c18
                      try clear c18b0
                      try clear p19
                      try clear q19
                      try clear hx19
                      try clear c20
                      try clear c20b0
                      try clear c20b1
                      try clear c21
                      try clear c21b0
                      try clear c22
                      try clear c22b0
                      try clear c22b1
                      try clear c24
                      try clear c24b0
                      try clear c24b1
                      try clear c26
                      try clear c26b0
                      try clear c27
                      try clear c27b0
                      try clear p28
                      try clear q28
                      try clear hx28
                      try clear c29
                      try clear c29b0
                      try clear c29b1
                      try clear c30
                      try clear c30b0
                      try clear c31
                      try clear c31b0
                      try clear c31b1
                      try clear p32
                      try clear q32
                      try clear hx32
                      try clear c33
                      try clear c33b0
                      try clear c33b1
                      try clear c34
                      try clear c34b0
                      try clear c35
                      try clear c35b0
                      try clear c35b1
                      try clear p1
                      try clear p19
                      try clear p2
                      try clear p28
                      try clear p32
                      try clear p6
                      try clear q1
                      try clear q19
                      try clear q28
                      try clear q32
                      try clear q6
                      obtain ⟨kq, x6_22, rfl, HA, HJ22, HB⟩ := hcut
                      cases kq with
                      | zero => exact absurd HA.out (by simp [letterboxref03_Decode.j5])
                      | succ kj22 =>
                        have H := HA.out
                        clear HA
                        simp only [letterboxref03_Decode.j5] at H
                        have HC36 := Aside0.mk H
                        clear H
                        go_upto_region 18 with (fail)
                        go_cut [84] (fun v84 wc => ∃ (kq : Nat) (x84_35 : Bool), v84 = .bool x84_35 ∧ Aside0 (letterboxref03_Decode.j6 kq x8_9 x4_1 x6_22 x7_9 x84_35 = some (r1, r2)) ∧ Aside0 (kq ≤ kj22) ∧ Aside0 (Below w.heap.size w wc))
                        case first =>
                          have H := HC36.out
                          clear HC36
                          by_cases c37 : (x6_22.size : Int) > 0
                          · rw [if_pos c37] at H
                            have c37b0 : decide (0 < (x6_22.size : Int)) = true := decide_eq_true c37
                            have c37b1 : decide (0 < x6_22.size) = true := decide_eq_true (by omega)
                            clear c37
                            (first | rw [c37b0] | (simp only [i64_w, i32_w]; rw [c37b0]) | skip)
                            obtain ⟨ji38, hji38⟩ : ∃ j_ : Int, (wrap64 ((x6_22.size : Int) - 1)) = j_ := ⟨_, rfl⟩
                            replace H : (if 0 ≤ (ji38) then (if (ji38) < (x6_22.size : Int) then (letterboxref03_Decode.j6 kj22 x8_9 x4_1 x6_22 x7_9 ((bt x6_22 (ji38)) == 61)) else (none)) else (none)) = some (r1, r2) := by first | (rw [hji38] at H; exact H) | (simp only [hji38] at H ⊢; exact H)
                            have hji38w : (IntKind.i64.wrap ((x6_22.size : Int) - 1)) = ji38 := (i64_w _).trans hji38
                            by_cases c39 : 0 ≤ (ji38)
                            · rw [if_pos c39] at H
                              have c39b0 : decide (0 ≤ (ji38)) = true := decide_eq_true c39
                              clear c39
                              by_cases c40 : (ji38) < (x6_22.size : Int)
                              · rw [if_pos c40] at H
                                have c40b0 : decide ((ji38) < (x6_22.size : Int)) = true := decide_eq_true c40
                                clear c40
                                have H' := Aside0.mk H
                                clear H
                                have p41 : 0 ≤ ((ji38) : Int) := of_decide_eq_true (by first | (with_reducible assumption) | assumption)
                                have q41 : (ji38) < (x6_22.size : Int) := of_decide_eq_true (by first | (with_reducible assumption) | assumption)
                                have hx41 := bt_at x6_22 (ji38)
                                replace p41 := eq_true p41
                                replace q41 := eq_true q41
                                go_wp2
                                go_meet
                                case rel => exact ⟨_, (((bt x6_22 (ji38)) == 61)), (by first | rfl | (simp; done) | (simp only [← hji38] <;> (first | rfl | simp)) | (simp [*]; done)), (by first | exact H' | (rw [hji38]; exact H') | (rw [hji25]; exact H') | (rw [hji16]; exact H') | (rw [hji12]; exact H')), ⟨by have := HK1.out; have := HJ2.out; have := HJ9.out; have := HJ22.out; first | omega | exact Nat.le_refl _⟩, ⟨by repeat (first | (with_reducible first | exact HB.out | apply below_alloc | apply pw_below_drewN | apply below_drew1) | exact HB.out)⟩⟩
                              · rw [if_neg c40] at H
                                exact absurd H (by simp)
                            · rw [if_neg c39] at H
                              exact absurd H (by simp)
                          · rw [if_neg c37] at H
                            have c37b0 : decide (0 < (x6_22.size : Int)) = false := decide_eq_false c37
                            have c37b1 : decide (0 < x6_22.size) = false := decide_eq_false (by omega)
                            clear c37
                            (first | rw [c37b0] | (simp only [i64_w, i32_w]; rw [c37b0]) | skip)
                            have H' := Aside0.mk H
                            clear H
                            go_wp2
                            go_meet
                            case rel => exact ⟨_, (false), (by first | rfl | (simp; done) | (simp [*]; done)), (by first | exact H' | (rw [hji38]; exact H') | (rw [hji25]; exact H') | (rw [hji16]; exact H') | (rw [hji12]; exact H')), ⟨by have := HK1.out; have := HJ2.out; have := HJ9.out; have := HJ22.out; first | omega | exact Nat.le_refl _⟩, ⟨by repeat (first | (with_reducible first | exact HB.out | apply below_alloc | apply pw_below_drewN | apply below_drew1) | exact HB.out)⟩⟩
                        case rest =>
                          clear HC36
                          try clear c1
                          try clear p1
                          try clear q1
                          try clear hx1
                          try clear c2
                          try clear c2b0
                          try clear c2b1
                          try clear p2
                          try clear q2
                          try clear hx2
                          try clear c3
                          try clear p3
                          try clear q3
                          try clear hx3
                          try clear c4
                          try clear c4b0
                          try clear p4
                          try clear q4
                          try clear hx4
                          try clear c5
                          try clear c5b0
                          try clear p6
                          try clear q6
                          try clear hx6
                          try clear c7
                          try clear c7b0
                          try clear c7b1
                          try clear c8
                          try clear c8b0
                          try clear c8b1
                          try clear c9
                          try clear c9b0
                          try clear c9b1
                          try clear c11
                          try clear c11b0
                          try clear c13
                          try clear c13b0
                          try clear c13b1
                          try clear c14
                          try clear c14b0
                          try clear c14b1
                          try clear c15
                          try clear c15b0
                          try clear c17
                          try clear c17b0
                          try clear c18
                          try clear c18b0
                          try clear p19
                          try clear q19
                          try clear hx19
                          try clear c20
                          try clear c20b0
                          try clear c20b1
                          try clear c21
                          try clear c21b0
                          try clear c22
                          try clear c22b0
                          try clear c22b1
                          try clear c24
                          try clear c24b0
                          try clear c24b1
                          try clear c26
                          try clear c26b0
                          try clear c27
                          try clear c27b0
                          try clear p28
                          try clear q28
                          try clear hx28
                          try clear c29
                          try clear c29b0
                          try clear c29b1
                          try clear c30
                          try clear c30b0
                          try clear c31
                          try clear c31b0
                          try clear c31b1
                          try clear p32
                          try clear q32
                          try clear hx32
                          try clear c33
                          try clear c33b0
                          try clear c33b1
                          try clear c34
                          try clear c34b0
                          try clear c35
                          try clear c35b0
                          try clear c35b1
                          try clear c37
                          try clear c37b0
                          try clear c37b1
                          try clear c39
                          try clear c39b0
                          try clear c40
                          try clear c40b0
                          try clear p41
                          try clear q41
                          try clear hx41
                          try clear p1
                          try clear p19
                          try clear p2
                          try clear p28
                          try clear p3
                          try clear p32
                          try clear p41
                          try clear p6
                          try clear q1
                          try clear q19
                          try clear q2
                          try clear q28
                          try clear q3
                          try clear q32
                          try clear q41
                          try clear q6
                          obtain ⟨kq, x84_35, rfl, HA, HJ35, HB⟩ := hcut
                          cases kq with
                          | zero => exact absurd HA.out (by simp [letterboxref03_Decode.j6])
                          | succ kj35 =>
                            have H := HA.out
                            clear HA
                            simp only [letterboxref03_Decode.j6] at H
                            by_cases c42 : x84_35 = true
                            · subst c42
                              have H1 : (if 0 ≤ (wrap64 ((x6_22.size : Int) - 1)) then (if (wrap64 ((x6_22.size : Int) - 1)) ≤ (x6_22.size : Int) then ((letterboxref03_text.f kj35 (x6_22.extract 0 ((wrap64 ((x6_22.size : Int) - 1)) : Int).toNat)).bind fun bt224 => (if bt224.2 = true then (if bt224.1.size + 0 ≤ 9223372036854775807 then (if x4_1.size + (bt224.1 ++ (⟨#[]⟩ : ByteArray)).size ≤ 9223372036854775807 then (letterboxref03_Decode.l0 kj35 x8_9 (x4_1 ++ (bt224.1 ++ (⟨#[]⟩ : ByteArray)))) else (none)) else (none)) else (some ((⟨#[]⟩ : ByteArray), false)))) else (none)) else (none)) = some (r1, r2) := by rw [if_pos rfl] at H; exact H
                              clear H
                              have H := H1
                              clear H1
                              obtain ⟨ji43, hji43⟩ : ∃ j_ : Int, (wrap64 ((x6_22.size : Int) - 1)) = j_ := ⟨_, rfl⟩
                              replace H : (if 0 ≤ (ji43) then (if (ji43) ≤ (x6_22.size : Int) then ((letterboxref03_text.f kj35 (x6_22.extract 0 ((ji43) : Int).toNat)).bind fun bt224 => (if bt224.2 = true then (if bt224.1.size + 0 ≤ 9223372036854775807 then (if x4_1.size + (bt224.1 ++ (⟨#[]⟩ : ByteArray)).size ≤ 9223372036854775807 then (letterboxref03_Decode.l0 kj35 x8_9 (x4_1 ++ (bt224.1 ++ (⟨#[]⟩ : ByteArray)))) else (none)) else (none)) else (some ((⟨#[]⟩ : ByteArray), false)))) else (none)) else (none)) = some (r1, r2) := by first | (rw [hji43] at H; exact H) | (simp only [hji43] at H ⊢; exact H)
                              have hji43w : (IntKind.i64.wrap ((x6_22.size : Int) - 1)) = ji43 := (i64_w _).trans hji43
                              by_cases c44 : 0 ≤ (ji43)
                              · rw [if_pos c44] at H
                                have c44b0 := eq_true c44
                                have c44b1 : decide (0 ≤ (ji43)) = true := decide_eq_true c44
                                clear c44
                                by_cases c45 : (ji43) ≤ (x6_22.size : Int)
                                · rw [if_pos c45] at H
                                  have c45b0 := eq_true c45
                                  have c45b1 : decide ((ji43) ≤ (x6_22.size : Int)) = true := decide_eq_true c45
                                  clear c45
                                  replace H := Option.bind_eq_some_iff.mp H
                                  obtain ⟨⟨t224, t225⟩, A460, H⟩ := H
                                  replace H : (if t225 = true then (if t224.size + 0 ≤ 9223372036854775807 then (if x4_1.size + (t224 ++ (⟨#[]⟩ : ByteArray)).size ≤ 9223372036854775807 then (letterboxref03_Decode.l0 kj35 x8_9 (x4_1 ++ (t224 ++ (⟨#[]⟩ : ByteArray)))) else (none)) else (none)) else (some ((⟨#[]⟩ : ByteArray), false))) = some (r1, r2) := H
                                  have A46 := Aside0.mk A460
                                  clear A460
                                  by_cases c47 : t225 = true
                                  · subst c47
                                    have H1 : (if t224.size + 0 ≤ 9223372036854775807 then (if x4_1.size + (t224 ++ (⟨#[]⟩ : ByteArray)).size ≤ 9223372036854775807 then (letterboxref03_Decode.l0 kj35 x8_9 (x4_1 ++ (t224 ++ (⟨#[]⟩ : ByteArray)))) else (none)) else (none)) = some (r1, r2) := by rw [if_pos rfl] at H; exact H
                                    clear H
                                    have H := H1
                                    clear H1
                                    by_cases c48 : t224.size + 0 ≤ 9223372036854775807
                                    · rw [if_pos c48] at H
                                      have c48b0 := eq_true c48
                                      have c48b1 : decide (t224.size + 0 ≤ 9223372036854775807) = true := decide_eq_true c48
                                      try have c48b2 : (9223372036854775807 < t224.size + 0) = False := eq_false (Nat.not_lt.2 c48)
                                      by_cases c49 : x4_1.size + (t224 ++ (⟨#[]⟩ : ByteArray)).size ≤ 9223372036854775807
                                      · rw [if_pos c49] at H
                                        have c49b0 := eq_true c49
                                        have c49b1 : decide (x4_1.size + (t224 ++ (⟨#[]⟩ : ByteArray)).size ≤ 9223372036854775807) = true := decide_eq_true c49
                                        try have c49b2 : (9223372036854775807 < x4_1.size + (t224 ++ (⟨#[]⟩ : ByteArray)).size) = False := eq_false (Nat.not_lt.2 c49)
                                        try have c49b4 : (9223372036854775807 < x4_1.size + (t224.size + 0)) = False := eq_false (Nat.not_lt.2 (by have h_ := c49; simp only [ByteArray.size_append] at h_; exact h_))
                                        have H' := Aside0.mk H
                                        clear H
                                        go_wp2_with (first | ((with_reducible refine gate_callee (f := 14) rfl ?_); refine goesL_ (some 92) rfl rfl Try.func14 (by kernel_rfl) rfl #[.string (x6_22.extract 0 ((ji43) : Int).toNat)] rfl (by (try simp only [List.map_toArray, List.map_cons, List.map_nil]); first | done | (simp only [hji43]; rfl) | rfl | (simp only [List.length_drop, List.length_take]; rfl)) ?_; (with_reducible refine (letterboxref03_text.calls kj35 (x6_22.extract 0 ((ji43) : Int).toNat) t224 true _ A46.out).mono ?_); rintro e w50 ⟨rfl, hb⟩; refine ⟨_, rfl, ?_⟩; have n0_ := Aside0.mk (below_step (by repeat (first | (with_reducible first | exact HB.out | apply below_alloc | apply pw_below_drewN | apply below_drew1) | exact HB.out)) hb); clear HB; have HB := n0_; clear n0_; (try clear hb); (try clear hb2); (try clear hk); (try clear hi)))
                                        go_roundg kj35
                                        case measure => have := HK1.out; have := HJ2.out; have := HJ9.out; have := HJ22.out; have := HJ35.out; omega
                                        case rel => exact ⟨(x8_9), (x4_1 ++ (t224 ++ (⟨#[]⟩ : ByteArray))), (by first | rfl | (simp; done) | (simp [*]; done)), (by first | rfl | (simp; done) | (simp [*]; done)), H', ⟨by have := HK1.out; have := HJ2.out; have := HJ9.out; have := HJ22.out; have := HJ35.out; omega⟩, ⟨by repeat (first | (with_reducible first | exact HB.out | apply below_alloc | apply pw_below_drewN | apply below_drew1) | exact HB.out)⟩⟩
                                      · rw [if_neg c49] at H
                                        exact absurd H (by simp)
                                    · rw [if_neg c48] at H
                                      exact absurd H (by simp)
                                  · replace c47 := Bool.eq_false_iff.mpr c47
                                    subst c47
                                    have H1 : (some ((⟨#[]⟩ : ByteArray), false)) = some (r1, r2) := by rw [if_neg (show ¬ (false = true) by decide)] at H; exact H
                                    clear H
                                    have H := H1
                                    clear H1
                                    simp only [Option.some.injEq, Prod.mk.injEq] at H
                                    obtain ⟨rfl, rfl⟩ := H
                                    go_wp2_with (first | ((with_reducible refine gate_callee (f := 14) rfl ?_); refine goesL_ (some 92) rfl rfl Try.func14 (by kernel_rfl) rfl #[.string (x6_22.extract 0 ((ji43) : Int).toNat)] rfl (by (try simp only [List.map_toArray, List.map_cons, List.map_nil]); first | done | (simp only [hji43]; rfl) | rfl | (simp only [List.length_drop, List.length_take]; rfl)) ?_; (with_reducible refine (letterboxref03_text.calls kj35 (x6_22.extract 0 ((ji43) : Int).toNat) t224 false _ A46.out).mono ?_); rintro e w51 ⟨rfl, hb⟩; refine ⟨_, rfl, ?_⟩; have n0_ := Aside0.mk (below_step (by repeat (first | (with_reducible first | exact HB.out | apply below_alloc | apply pw_below_drewN | apply below_drew1) | exact HB.out)) hb); clear HB; have HB := n0_; clear n0_; (try clear hb); (try clear hb2); (try clear hk); (try clear hi)))
                                    go_ret2
                                    exact ⟨by first | rfl | (simp [errW_none, errW_some] <;> rfl) | (simp only [← hji43]; first | rfl | (simp [errW_none, errW_some] <;> rfl)) | (simp [*, errW_none, errW_some] <;> rfl), by repeat (first | (with_reducible first | exact HB.out | apply below_alloc | apply pw_below_drewN | apply below_drew1) | exact HB.out)⟩
                                · rw [if_neg c45] at H
                                  exact absurd H (by simp)
                              · rw [if_neg c44] at H
                                exact absurd H (by simp)
                            · replace c42 := Bool.eq_false_iff.mpr c42
                              subst c42
                              have H1 : ((letterboxref03_text.f kj35 x6_22).bind fun bt226 => (if bt226.2 = true then (if bt226.1.size + x7_9.size ≤ 9223372036854775807 then (if x4_1.size + (bt226.1 ++ x7_9).size ≤ 9223372036854775807 then (letterboxref03_Decode.l0 kj35 x8_9 (x4_1 ++ (bt226.1 ++ x7_9))) else (none)) else (none)) else (some ((⟨#[]⟩ : ByteArray), false)))) = some (r1, r2) := by rw [if_neg (show ¬ (false = true) by decide)] at H; exact H
                              clear H
                              have H := H1
                              clear H1
                              replace H := Option.bind_eq_some_iff.mp H
                              obtain ⟨⟨t226, t227⟩, A520, H⟩ := H
                              replace H : (if t227 = true then (if t226.size + x7_9.size ≤ 9223372036854775807 then (if x4_1.size + (t226 ++ x7_9).size ≤ 9223372036854775807 then (letterboxref03_Decode.l0 kj35 x8_9 (x4_1 ++ (t226 ++ x7_9))) else (none)) else (none)) else (some ((⟨#[]⟩ : ByteArray), false))) = some (r1, r2) := H
                              have A52 := Aside0.mk A520
                              clear A520
                              by_cases c53 : t227 = true
                              · subst c53
                                have H1 : (if t226.size + x7_9.size ≤ 9223372036854775807 then (if x4_1.size + (t226 ++ x7_9).size ≤ 9223372036854775807 then (letterboxref03_Decode.l0 kj35 x8_9 (x4_1 ++ (t226 ++ x7_9))) else (none)) else (none)) = some (r1, r2) := by rw [if_pos rfl] at H; exact H
                                clear H
                                have H := H1
                                clear H1
                                by_cases c54 : t226.size + x7_9.size ≤ 9223372036854775807
                                · rw [if_pos c54] at H
                                  have c54b0 := eq_true c54
                                  have c54b1 : decide (t226.size + x7_9.size ≤ 9223372036854775807) = true := decide_eq_true c54
                                  try have c54b2 : (9223372036854775807 < t226.size + x7_9.size) = False := eq_false (Nat.not_lt.2 c54)
                                  by_cases c55 : x4_1.size + (t226 ++ x7_9).size ≤ 9223372036854775807
                                  · rw [if_pos c55] at H
                                    have c55b0 := eq_true c55
                                    have c55b1 : decide (x4_1.size + (t226 ++ x7_9).size ≤ 9223372036854775807) = true := decide_eq_true c55
                                    try have c55b2 : (9223372036854775807 < x4_1.size + (t226 ++ x7_9).size) = False := eq_false (Nat.not_lt.2 c55)
                                    try have c55b4 : (9223372036854775807 < x4_1.size + (t226.size + x7_9.size)) = False := eq_false (Nat.not_lt.2 (by have h_ := c55; simp only [ByteArray.size_append] at h_; exact h_))
                                    have H' := Aside0.mk H
                                    clear H
                                    go_wp2_with (first | ((with_reducible refine gate_callee (f := 14) rfl ?_); refine goesL_ (some 92) rfl rfl Try.func14 (by kernel_rfl) rfl #[.string x6_22] rfl (by (try simp only [List.map_toArray, List.map_cons, List.map_nil]); first | done | rfl | (simp only [List.length_drop, List.length_take]; rfl)) ?_; (with_reducible refine (letterboxref03_text.calls kj35 x6_22 t226 true _ A52.out).mono ?_); rintro e w56 ⟨rfl, hb⟩; refine ⟨_, rfl, ?_⟩; have n0_ := Aside0.mk (below_step (by repeat (first | (with_reducible first | exact HB.out | apply below_alloc | apply pw_below_drewN | apply below_drew1) | exact HB.out)) hb); clear HB; have HB := n0_; clear n0_; (try clear hb); (try clear hb2); (try clear hk); (try clear hi)))
                                    go_roundg kj35
                                    case measure => have := HK1.out; have := HJ2.out; have := HJ9.out; have := HJ22.out; have := HJ35.out; omega
                                    case rel => exact ⟨(x8_9), (x4_1 ++ (t226 ++ x7_9)), (by first | rfl | (simp; done) | (simp [*]; done)), (by first | rfl | (simp; done) | (simp [*]; done)), H', ⟨by have := HK1.out; have := HJ2.out; have := HJ9.out; have := HJ22.out; have := HJ35.out; omega⟩, ⟨by repeat (first | (with_reducible first | exact HB.out | apply below_alloc | apply pw_below_drewN | apply below_drew1) | exact HB.out)⟩⟩
                                  · rw [if_neg c55] at H
                                    exact absurd H (by simp)
                                · rw [if_neg c54] at H
                                  exact absurd H (by simp)
                              · replace c53 := Bool.eq_false_iff.mpr c53
                                subst c53
                                have H1 : (some ((⟨#[]⟩ : ByteArray), false)) = some (r1, r2) := by rw [if_neg (show ¬ (false = true) by decide)] at H; exact H
                                clear H
                                have H := H1
                                clear H1
                                simp only [Option.some.injEq, Prod.mk.injEq] at H
                                obtain ⟨rfl, rfl⟩ := H
                                go_wp2_with (first | ((with_reducible refine gate_callee (f := 14) rfl ?_); refine goesL_ (some 92) rfl rfl Try.func14 (by kernel_rfl) rfl #[.string x6_22] rfl (by (try simp only [List.map_toArray, List.map_cons, List.map_nil]); first | done | rfl | (simp only [List.length_drop, List.length_take]; rfl)) ?_; (with_reducible refine (letterboxref03_text.calls kj35 x6_22 t226 false _ A52.out).mono ?_); rintro e w57 ⟨rfl, hb⟩; refine ⟨_, rfl, ?_⟩; have n0_ := Aside0.mk (below_step (by repeat (first | (with_reducible first | exact HB.out | apply below_alloc | apply pw_below_drewN | apply below_drew1) | exact HB.out)) hb); clear HB; have HB := n0_; clear n0_; (try clear hb); (try clear hb2); (try clear hk); (try clear hi)))
                                go_ret2
                                exact ⟨by first | rfl | (simp [errW_none, errW_some] <;> rfl) | (simp [*, errW_none, errW_some] <;> rfl), by repeat (first | (with_reducible first | exact HB.out | apply below_alloc | apply pw_below_drewN | apply below_drew1) | exact HB.out)⟩
              · rw [if_neg c9] at H
                exact absurd H (by simp)
            · rw [if_neg c8] at H
              exact absurd H (by simp)

end Go.Proofs.Ytcnbkblnchechaa.P
