-- Written by a program of this session (wip/tools/mk.sh) for this claim: it runs the kit's print with contracts of our own. Lean checks it.
import Derived.Test.YtoihcdahloddkaaDoorPx0
namespace Go.Proofs.YtoihcdahloddkaaDoor.P
open Go.RowKit Go.Proofs.YtoihcdahloddkaaDoorW.PrintWords Go.Proofs.YtoihcdahloddkaaDoorW.PrintLast Go.Proofs.YtoihcdahloddkaaDoorW.PrintMore
attribute [-simp] Int.tmod_tmod_of_dvd
attribute [local go_sem] max2_int min2_int max_two min_two max_three min_three max_four min_four   -- for this text's walks alone
set_option linter.unusedVariables false
set_option linter.unusedSimpArgs false

/-! ### utf8_word_byte: function 31 -/
def utf8_word_byte.f (l0 : List Int) : Option (Int) := if 0 < (l0.length : Int) then (if 1 < (l0.length : Int) then (if 2 < (l0.length : Int) then (if 3 < (l0.length : Int) then (if 4 < (l0.length : Int) then (if 5 < (l0.length : Int) then (if 6 < (l0.length : Int) then (if 7 < (l0.length : Int) then (some (Go.bits .or .u64 (Go.bits .or .u64 (Go.bits .or .u64 (Go.bits .or .u64 (Go.bits .or .u64 (Go.bits .or .u64 (Go.bits .or .u64 (IntKind.u64.wrap (rd l0 0)) (IntKind.u64.wrap ((IntKind.u64.wrap (rd l0 1)) * 256))) (IntKind.u64.wrap ((IntKind.u64.wrap (rd l0 2)) * 65536))) (IntKind.u64.wrap ((IntKind.u64.wrap (rd l0 3)) * 16777216))) (IntKind.u64.wrap ((IntKind.u64.wrap (rd l0 4)) * 4294967296))) (IntKind.u64.wrap ((IntKind.u64.wrap (rd l0 5)) * 1099511627776))) (IntKind.u64.wrap ((IntKind.u64.wrap (rd l0 6)) * 281474976710656))) (IntKind.u64.wrap ((IntKind.u64.wrap (rd l0 7)) * 72057594037927936)))) else (none)) else (none)) else (none)) else (none)) else (none)) else (none)) else (none)) else (none)
set_option maxHeartbeats 8000000 in
set_option maxRecDepth 100000 in
theorem utf8_word_byte.calls (A0 : Option Addr) (c0 : Nat) (l0 : List Int) (r : Int) (w : World) (hr0 : Kd.C (Kd.int .u8) w A0 l0.length l0) (hc0 : l0.length ≤ c0) (h : utf8_word_byte.f l0 = some r) :
    Calls Tryd.prog 31 #[.slice A0 l0.length c0] w fun e w' => e = .returned (.int .u64 r) ∧ Drawn0 w w' := by
  have hw8_ : ∀ x_ : Int, IntKind.u8.wrap x_ = x_ % 256 := IntKind.wrap_u8
  have HR0 := Aside0.mk hr0
  have HC0 := Aside0.mk hc0
  clear hr0 hc0
  have H : (if 0 < (l0.length : Int) then (if 1 < (l0.length : Int) then (if 2 < (l0.length : Int) then (if 3 < (l0.length : Int) then (if 4 < (l0.length : Int) then (if 5 < (l0.length : Int) then (if 6 < (l0.length : Int) then (if 7 < (l0.length : Int) then (some (Go.bits .or .u64 (Go.bits .or .u64 (Go.bits .or .u64 (Go.bits .or .u64 (Go.bits .or .u64 (Go.bits .or .u64 (Go.bits .or .u64 (IntKind.u64.wrap (rd l0 0)) (IntKind.u64.wrap ((IntKind.u64.wrap (rd l0 1)) * 256))) (IntKind.u64.wrap ((IntKind.u64.wrap (rd l0 2)) * 65536))) (IntKind.u64.wrap ((IntKind.u64.wrap (rd l0 3)) * 16777216))) (IntKind.u64.wrap ((IntKind.u64.wrap (rd l0 4)) * 4294967296))) (IntKind.u64.wrap ((IntKind.u64.wrap (rd l0 5)) * 1099511627776))) (IntKind.u64.wrap ((IntKind.u64.wrap (rd l0 6)) * 281474976710656))) (IntKind.u64.wrap ((IntKind.u64.wrap (rd l0 7)) * 72057594037927936)))) else (none)) else (none)) else (none)) else (none)) else (none)) else (none)) else (none)) else (none)) = some r := h
  clear h
  by_cases c2 : 0 < (l0.length : Int)
  · rw [if_pos c2] at H
    have c2b0 : decide (0 < (l0.length : Int)) = true := decide_eq_true c2
    have c2b1 : decide (0 < l0.length) = true := decide_eq_true (by omega)
    clear c2
    by_cases c3 : 1 < (l0.length : Int)
    · rw [if_pos c3] at H
      have c3b0 : decide (1 < (l0.length : Int)) = true := decide_eq_true c3
      have c3b1 : decide (1 < l0.length) = true := decide_eq_true (by omega)
      clear c3
      by_cases c4 : 2 < (l0.length : Int)
      · rw [if_pos c4] at H
        have c4b0 : decide (2 < (l0.length : Int)) = true := decide_eq_true c4
        have c4b1 : decide (2 < l0.length) = true := decide_eq_true (by omega)
        clear c4
        by_cases c5 : 3 < (l0.length : Int)
        · rw [if_pos c5] at H
          have c5b0 : decide (3 < (l0.length : Int)) = true := decide_eq_true c5
          have c5b1 : decide (3 < l0.length) = true := decide_eq_true (by omega)
          clear c5
          by_cases c6 : 4 < (l0.length : Int)
          · rw [if_pos c6] at H
            have c6b0 : decide (4 < (l0.length : Int)) = true := decide_eq_true c6
            have c6b1 : decide (4 < l0.length) = true := decide_eq_true (by omega)
            clear c6
            by_cases c7 : 5 < (l0.length : Int)
            · rw [if_pos c7] at H
              have c7b0 : decide (5 < (l0.length : Int)) = true := decide_eq_true c7
              have c7b1 : decide (5 < l0.length) = true := decide_eq_true (by omega)
              clear c7
              by_cases c8 : 6 < (l0.length : Int)
              · rw [if_pos c8] at H
                have c8b0 : decide (6 < (l0.length : Int)) = true := decide_eq_true c8
                have c8b1 : decide (6 < l0.length) = true := decide_eq_true (by omega)
                clear c8
                by_cases c9 : 7 < (l0.length : Int)
                · rw [if_pos c9] at H
                  have c9b0 : decide (7 < (l0.length : Int)) = true := decide_eq_true c9
                  have c9b1 : decide (7 < l0.length) = true := decide_eq_true (by omega)
                  clear c9
                  obtain rfl := Option.some.inj H
                  have p101 : 0 ≤ (0 : Int) := (by omega)
                  have q101 : 0 < (l0.length : Int) := of_decide_eq_true (by first | (with_reducible assumption) | assumption)
                  obtain ⟨ad101, e101, hx101_0⟩ := Kd.at_int HR0.out 0 p101 q101
                  cases e101
                  have qi101 : (0 < l0.length) = True := eq_true (by omega)
                  (try rw [show ((0 : Int)).toNat = 0 from rfl] at hx101_0)
                  (try rw [Addr.add_zero'] at hx101_0)
                  replace p101 := eq_true p101
                  replace q101 := eq_true q101
                  have p102 : 0 ≤ (1 : Int) := (by omega)
                  have q102 : 1 < (l0.length : Int) := of_decide_eq_true (by first | (with_reducible assumption) | assumption)
                  obtain ⟨ad102, e102, hx102_0⟩ := Kd.at_int HR0.out 1 p102 q102
                  obtain rfl : ad101 = ad102 := (by injection e102)
                  (try simp only [show (1 : Int).toNat = 1 from rfl, Nat.reduceMul, Nat.reduceEqDiff, Go.Addr.add, ↓reduceIte] at hx102_0)
                  have qi102 : (1 < l0.length) = True := eq_true (by omega)
                  (try rw [show ((1 : Int)).toNat = 1 from rfl] at hx102_0)
                  replace p102 := eq_true p102
                  replace q102 := eq_true q102
                  have p103 : 0 ≤ (2 : Int) := (by omega)
                  have q103 : 2 < (l0.length : Int) := of_decide_eq_true (by first | (with_reducible assumption) | assumption)
                  obtain ⟨ad103, e103, hx103_0⟩ := Kd.at_int HR0.out 2 p103 q103
                  obtain rfl : ad101 = ad103 := (by injection e103)
                  (try simp only [show (2 : Int).toNat = 2 from rfl, Nat.reduceMul, Nat.reduceEqDiff, Go.Addr.add, ↓reduceIte] at hx103_0)
                  have qi103 : (2 < l0.length) = True := eq_true (by omega)
                  (try rw [show ((2 : Int)).toNat = 2 from rfl] at hx103_0)
                  replace p103 := eq_true p103
                  replace q103 := eq_true q103
                  have p104 : 0 ≤ (3 : Int) := (by omega)
                  have q104 : 3 < (l0.length : Int) := of_decide_eq_true (by first | (with_reducible assumption) | assumption)
                  obtain ⟨ad104, e104, hx104_0⟩ := Kd.at_int HR0.out 3 p104 q104
                  obtain rfl : ad101 = ad104 := (by injection e104)
                  (try simp only [show (3 : Int).toNat = 3 from rfl, Nat.reduceMul, Nat.reduceEqDiff, Go.Addr.add, ↓reduceIte] at hx104_0)
                  have qi104 : (3 < l0.length) = True := eq_true (by omega)
                  (try rw [show ((3 : Int)).toNat = 3 from rfl] at hx104_0)
                  replace p104 := eq_true p104
                  replace q104 := eq_true q104
                  have p105 : 0 ≤ (4 : Int) := (by omega)
                  have q105 : 4 < (l0.length : Int) := of_decide_eq_true (by first | (with_reducible assumption) | assumption)
                  obtain ⟨ad105, e105, hx105_0⟩ := Kd.at_int HR0.out 4 p105 q105
                  obtain rfl : ad101 = ad105 := (by injection e105)
                  (try simp only [show (4 : Int).toNat = 4 from rfl, Nat.reduceMul, Nat.reduceEqDiff, Go.Addr.add, ↓reduceIte] at hx105_0)
                  have qi105 : (4 < l0.length) = True := eq_true (by omega)
                  (try rw [show ((4 : Int)).toNat = 4 from rfl] at hx105_0)
                  replace p105 := eq_true p105
                  replace q105 := eq_true q105
                  have p106 : 0 ≤ (5 : Int) := (by omega)
                  have q106 : 5 < (l0.length : Int) := of_decide_eq_true (by first | (with_reducible assumption) | assumption)
                  obtain ⟨ad106, e106, hx106_0⟩ := Kd.at_int HR0.out 5 p106 q106
                  obtain rfl : ad101 = ad106 := (by injection e106)
                  (try simp only [show (5 : Int).toNat = 5 from rfl, Nat.reduceMul, Nat.reduceEqDiff, Go.Addr.add, ↓reduceIte] at hx106_0)
                  have qi106 : (5 < l0.length) = True := eq_true (by omega)
                  (try rw [show ((5 : Int)).toNat = 5 from rfl] at hx106_0)
                  replace p106 := eq_true p106
                  replace q106 := eq_true q106
                  have p107 : 0 ≤ (6 : Int) := (by omega)
                  have q107 : 6 < (l0.length : Int) := of_decide_eq_true (by first | (with_reducible assumption) | assumption)
                  obtain ⟨ad107, e107, hx107_0⟩ := Kd.at_int HR0.out 6 p107 q107
                  obtain rfl : ad101 = ad107 := (by injection e107)
                  (try simp only [show (6 : Int).toNat = 6 from rfl, Nat.reduceMul, Nat.reduceEqDiff, Go.Addr.add, ↓reduceIte] at hx107_0)
                  have qi107 : (6 < l0.length) = True := eq_true (by omega)
                  (try rw [show ((6 : Int)).toNat = 6 from rfl] at hx107_0)
                  replace p107 := eq_true p107
                  replace q107 := eq_true q107
                  have p108 : 0 ≤ (7 : Int) := (by omega)
                  have q108 : 7 < (l0.length : Int) := of_decide_eq_true (by first | (with_reducible assumption) | assumption)
                  obtain ⟨ad108, e108, hx108_0⟩ := Kd.at_int HR0.out 7 p108 q108
                  obtain rfl : ad101 = ad108 := (by injection e108)
                  (try simp only [show (7 : Int).toNat = 7 from rfl, Nat.reduceMul, Nat.reduceEqDiff, Go.Addr.add, ↓reduceIte] at hx108_0)
                  have qi108 : (7 < l0.length) = True := eq_true (by omega)
                  (try rw [show ((7 : Int)).toNat = 7 from rfl] at hx108_0)
                  replace p108 := eq_true p108
                  replace q108 := eq_true q108
                  go_enter Tryd.func31, Tryd.ntmps31
                  go_wp2
                  repeat (go_quiet (fail); try go_wp2)
                  go_ret
                  exact ⟨by first | rfl | (simp; done) | (simp [*]; done), by repeat (first | exact Drawn0.refl _ | apply Drawn0.step)⟩
                · rw [if_neg c9] at H
                  exact absurd H (by simp)
              · rw [if_neg c8] at H
                exact absurd H (by simp)
            · rw [if_neg c7] at H
              exact absurd H (by simp)
          · rw [if_neg c6] at H
            exact absurd H (by simp)
        · rw [if_neg c5] at H
          exact absurd H (by simp)
      · rw [if_neg c4] at H
        exact absurd H (by simp)
    · rw [if_neg c3] at H
      exact absurd H (by simp)
  · rw [if_neg c2] at H
    exact absurd H (by simp)

/-! ### charset_set_plain: function 23 -/
def charset_set_plain.f (a0_0 : Int) (a1 : ByteArray) : Option (List Int × Bool) := if a1.size ≤ 9223372036854775807 then (some ((bytesOf a1), true)) else (none)
set_option maxHeartbeats 8000000 in
set_option maxRecDepth 100000 in
theorem charset_set_plain.calls (a0_0 : Int) (a1 : ByteArray) (r1 : List Int) (r2 : Bool) (w : World) (h : charset_set_plain.f a0_0 a1 = some (r1, r2)) :
    Calls Tryd.prog 23 #[.agg #[.int .i32 a0_0], .string a1] w fun e w' => ∃ v0_ : Value, e = .returned (.tuple #[v0_, .bool r2]) ∧ Kd.V (Kd.int .u8) 5 w' w.heap.size (fun k_ => (w.heap.size ≤ k_)) v0_ r1 ∧ Below w.heap.size w w' := by
  have hu36 := Tryd.underlying36
  have HB := Aside0.mk (Below.refl w.heap.size w)
  have H : (if a1.size ≤ 9223372036854775807 then (some ((bytesOf a1), true)) else (none)) = some (r1, r2) := h
  clear h
  by_cases c3 : a1.size ≤ 9223372036854775807
  · rw [if_pos c3] at H
    have c3b0 := eq_true c3
    have c3b1 : decide (a1.size ≤ 9223372036854775807) = true := decide_eq_true c3
    try have c3b2 : (9223372036854775807 < a1.size) = False := eq_false (Nat.not_lt.2 c3)
    clear c3
    obtain ⟨y110, hy110⟩ : ∃ y_ : List Int, y_ = (bytesOf a1) := ⟨_, rfl⟩
    replace H : (some (y110, true)) = some (r1, r2) := by first | (rw [hy110]; with_reducible exact H) | (have H2_ := (Option.bind_some _ _).symm.trans H; rw [hy110]; with_reducible exact H2_) | (have H2_ := (Option.bind_some _ _).symm.trans H; with_reducible exact H2_) | with_reducible exact H | (rw [hy110]; exact H) | exact H
    have Ny110 := Aside0.mk hy110
    clear hy110
    simp only [Option.some.injEq, Prod.mk.injEq] at H
    obtain ⟨rfl, rfl⟩ := H
    go_enter Tryd.func23, Tryd.ntmps23
    go_wp2_with (first | ((with_reducible refine gate_dst (N := 2) rfl ?_); refine box_event ?hg (N := 2) ?hd (cs := #[.int .i32 a0_0]) (t := 36) ?hr ?_; (case hd => rfl); (case hg => rfl); (case hr => first | (go_simp; done) | (go_simp; rfl)); intro gb109 hg w4 hbox hb; have n0_ := Aside0.mk (below_step (by repeat (first | (with_reducible first | exact HB.out | apply below_alloc | apply pw_below_drewN | apply below_drew1) | exact HB.out)) hb); have n1_ := Aside0.mk (hbox); have n2_ := Aside0.mk ((by rw [hg]; exact (below_size (by repeat (first | (with_reducible first | exact HB.out | apply below_alloc | apply pw_below_drewN | apply below_drew1) | exact HB.out))) : w.heap.size ≤ gb109)); have n3_ := Aside0.mk ((by rw [hg]; exact (below_size (by repeat (first | (with_reducible first | exact HB.out | apply below_alloc | apply pw_below_drewN | apply below_drew1) | exact HB.out))) : w.heap.size ≤ gb109)); clear HB; have HB := n0_; have BK109 := n1_; have GW109 := n2_; have GE109 := n3_; clear n0_ n1_ n2_ n3_; clear hb hbox hg) | ((with_reducible refine gate_dst (N := 7) rfl ?_); refine Conv.bytes _ 5 rfl (N := 7) rfl 9 22 _ rfl a1 rfl Tryd.underlying9 Tryd.underlying22 Tryd.underlying5 (of_decide_eq_true (by first | (with_reducible assumption) | assumption)) (ok := (fun k_ => (w.heap.size ≤ k_) ∧ k_ ≠ gb109)) ((show ∀ k_, w4.heap.size ≤ k_ → (fun k_ => (w.heap.size ≤ k_) ∧ k_ ≠ gb109) k_ from fun k_ hk => ⟨(Nat.le_trans (below_size (by repeat (first | (with_reducible first | exact HB.out | apply below_alloc | apply pw_below_drewN | apply below_drew1 | refine below_set ?_ GE109.out) | exact HB.out))) hk), Kd.freshB (g := gb109) (o := .cells #[.int .i32 a0_0] 36 (0, 0)) (by (with_reducible repeat (first | refine blk_drewN ?_ _ | refine blk_drew ?_ | refine blk_alloc ?_ _)); exact BK109.out) k_ hk⟩) _ (Nat.le_refl _)) (Below.refl _ _) (Nat.le_refl _) ?_; intro v111 w5 ho6 hb hg_ hnew_; clear hg_ hnew_; (first | rw [← Ny110.out] at ho6 | (simp only [Int.reduceToNat] at ho6; rw [← Ny110.out] at ho6)); have n0_ := Aside0.mk (Kd.V_lower ho6 (below_size (by repeat (first | (with_reducible first | exact HB.out | apply below_alloc | apply pw_below_drewN | apply below_drew1 | refine below_set ?_ GE109.out) | exact HB.out)))); have n1_ := Aside0.mk (blk_below (g := gb109) (o := .cells #[.int .i32 a0_0] 36 (0, 0)) (by (with_reducible repeat (first | refine blk_drewN ?_ _ | refine blk_drew ?_ | refine blk_alloc ?_ _)); exact BK109.out) hb); have n2_ := Aside0.mk (below_step (by repeat (first | (with_reducible first | exact HB.out | apply below_alloc | apply pw_below_drewN | apply below_drew1 | refine below_set ?_ GE109.out) | exact HB.out)) hb); clear BK109; clear HB; have HO112 := n0_; have BK109 := n1_; have HB := n2_; clear n0_ n1_ n2_; clear hb ho6))
    go_ret2
    exact ⟨_, by first | rfl | (simp [errW_none, errW_some] <;> rfl) | (simp [*, errW_none, errW_some] <;> rfl), by (with_reducible repeat (first | apply Kd.V_alloc | apply Kd.V_drewN | apply Kd.V_drew)); exact Kd.V_mono HO112.out (fun _ hk => hk.1), by repeat (first | (with_reducible first | exact HB.out | apply below_alloc | apply pw_below_drewN | apply below_drew1 | refine below_set ?_ GE109.out) | exact HB.out)⟩
  · rw [if_neg c3] at H
    exact absurd H (by simp)

-- NOT PRINTED: function 20 (charset_set_text)

-- NOT PRINTED: function 21 (charset_set_bytes)

-- NOT PRINTED: function 28 (utf8_Valid)

-- NOT PRINTED: function 22 (charset_set_wide)

/-! ### chars_Lower: function 29 -/
def chars_Lower.f (a0 : Int) : Option (Int) := if a0 ≥ 65 then (if a0 ≤ 90 then (some ((((a0 - 65) % 256) + 97) % 256)) else (some a0)) else (some a0)
set_option maxHeartbeats 8000000 in
set_option maxRecDepth 100000 in
theorem chars_Lower.calls (a0 : Int) (r : Int) (w : World) (h : chars_Lower.f a0 = some r) :
    Calls Tryd.prog 29 #[.int .u8 a0] w fun e w' => e = .returned (.int .u8 r) ∧ Drawn0 w w' := by
  have H : (if a0 ≥ 65 then (if a0 ≤ 90 then (some ((((a0 - 65) % 256) + 97) % 256)) else (some a0)) else (some a0)) = some r := h
  clear h
  by_cases c2 : a0 ≥ 65
  · rw [if_pos c2] at H
    have c2b0 : decide (65 ≤ a0) = true := decide_eq_true c2
    clear c2
    by_cases c3 : a0 ≤ 90
    · rw [if_pos c3] at H
      have c3b0 : decide (a0 ≤ 90) = true := decide_eq_true c3
      clear c3
      obtain rfl := Option.some.inj H
      go_enter Tryd.func29, Tryd.ntmps29
      go_wp2
      go_ret
      exact ⟨by first | rfl | (simp; done) | (simp [*]; done), by repeat (first | exact Drawn0.refl _ | apply Drawn0.step)⟩
    · rw [if_neg c3] at H
      have c3b0 : decide (a0 ≤ 90) = false := decide_eq_false c3
      clear c3
      obtain rfl := Option.some.inj H
      go_enter Tryd.func29, Tryd.ntmps29
      go_wp2
      go_ret
      exact ⟨by first | rfl | (simp; done) | (simp [*]; done), by repeat (first | exact Drawn0.refl _ | apply Drawn0.step)⟩
  · rw [if_neg c2] at H
    have c2b0 : decide (65 ≤ a0) = false := decide_eq_false c2
    clear c2
    obtain rfl := Option.some.inj H
    go_enter Tryd.func29, Tryd.ntmps29
    go_wp2
    go_ret
    exact ⟨by first | rfl | (simp; done) | (simp [*]; done), by repeat (first | exact Drawn0.refl _ | apply Drawn0.step)⟩

/-! ### chars_Fold: function 24 -/
def chars_Fold.low (x : Int) : Int := (chars_Lower.f x).getD 0
def chars_Fold.f (a0 : ByteArray) : Option ByteArray := if a0.size ≤ 9223372036854775807 then some (strOfNums ((bytesOf a0).map chars_Fold.low)) else none
theorem chars_Fold.low_is (x : Int) : chars_Lower.f x = some (chars_Fold.low x) := by
  unfold chars_Fold.low chars_Lower.f
  by_cases h1 : x ≥ 65
  · by_cases h2 : x ≤ 90
    · simp only [if_pos h1, if_pos h2]; rfl
    · simp only [if_pos h1, if_neg h2]; rfl
  · simp only [if_neg h1]; rfl
theorem chars_Fold.low_get (s : ByteArray) (i : Nat) : ((bytesOf s).map chars_Fold.low).getD i 0 = chars_Fold.low ((bytesOf s).getD i 0) := by
  simp only [List.getD_eq_getElem?_getD, List.getElem?_map]
  cases (bytesOf s)[i]? <;> rfl
def chars_Fold.row (w wr : World) (s : ByteArray) (i : Nat) : Prop :=
  ∃ (C : Array Value) (m : Nat), wr.heap[w.heap.size]? = some (.cells C 5 (m, m + 1)) ∧ C.size = m ∧ s.size ≤ m ∧ ∀ j, j < s.size → C[j]? = some (.int .u8 (if j < i then chars_Fold.low ((bytesOf s).getD j 0) else (bytesOf s).getD j 0))
theorem chars_Fold.start (w : World) (s : ByteArray) (hs : s.size ≤ 9223372036854775807) : chars_Fold.row w (Lib.bytesWorld w 5 s) s 0 := by
  refine ⟨_, _, Lib.bytesWorld_at_new w 5 s, rfl, by simp [Lib.bytesCells], fun j hj => ?_⟩
  have h1 := Lib.bytesWorld_cell w 5 s j hj
  rw [cell_of_row _ _ _ _ _ _ (Lib.bytesWorld_at_new w 5 s)] at h1
  have h' : j < s.data.toList.length := by rw [data_length]; exact hj
  rw [h1, if_neg (Nat.not_lt_zero _)]
  simp [bytesOf, List.getD_eq_getElem?_getD, List.getElem?_eq_getElem h']
theorem chars_Fold.next {w wr : World} {s : ByteArray} {i : Nat} (h : chars_Fold.row w wr s i) (hi : i < s.size) : chars_Fold.row w (wr.setCell ⟨w.heap.size, i, none⟩ (.int .u8 (chars_Fold.low ((bytesOf s).getD i 0)))) s (i + 1) := by
  obtain ⟨C, m, hg, hm, hsm, hc⟩ := h
  refine ⟨C.setIfInBounds i (.int .u8 (chars_Fold.low ((bytesOf s).getD i 0))), m, ?_, by simpa using hm, hsm, fun j hj => ?_⟩
  · rw [setCell_eq_setRow wr _ i C _ _ _ hg]; exact setRow_heap wr _ C _ _ _ hg
  · rw [Array.getElem?_setIfInBounds]
    by_cases e : i = j
    · subst e; simp [show i < C.size by omega]
    · have : (j < i + 1) ↔ j < i := by omega
      simp only [e, if_false, this]; exact hc j hj
theorem chars_Fold.cell {w wr : World} {s : ByteArray} {i : Nat} (h : chars_Fold.row w wr s i) (j : Nat) (hj : j < s.size) : wr.cell? ⟨w.heap.size, j, none⟩ = some (.int .u8 (if j < i then chars_Fold.low ((bytesOf s).getD j 0) else (bytesOf s).getD j 0)) ∧ wr.frozen? ⟨w.heap.size, j, none⟩ = false := by
  obtain ⟨C, m, hg, hm, hsm, hc⟩ := h
  refine ⟨by rw [cell_of_row _ _ _ _ _ _ hg]; exact hc j hj, ?_⟩
  simp [World.frozen?, hg]; omega
theorem chars_Fold.reads {w wr : World} {s : ByteArray} (h : chars_Fold.row w wr s s.size) (hs : s.size ≤ 9223372036854775807) : Kd.C (Kd.int .u8) wr (some ⟨w.heap.size, 0, none⟩) s.size ((bytesOf s).map chars_Fold.low) := by
  refine Kd.C_of_reads (d := (0 : Int)) (h1 := fun _ => rfl) ⟨by simp [bytesOf_length], hs, fun _ => ⟨_, rfl, fun j hj => ?_⟩⟩
  rw [add_plain, (chars_Fold.cell h j hj).1, if_pos hj, chars_Fold.low_get]
set_option maxHeartbeats 2000000 in
theorem chars_Fold.calls (a0 : ByteArray) (r : ByteArray) (w : World) (h : chars_Fold.f a0 = some r) :
    Calls Tryd.prog 24 #[.string a0] w fun e w' => e = .returned (.string r) ∧ Below w.heap.size w w' := by
  unfold chars_Fold.f at h
  by_cases hs : a0.size ≤ 9223372036854775807
  case neg => rw [if_neg hs] at h; exact absurd h (by simp)
  rw [if_pos hs] at h
  have hr := Option.some.inj h
  clear h
  subst hr
  have hcv := print_bytes (P := Tryd.prog) 9 22 5 Tryd.underlying9 Tryd.underlying22 Tryd.underlying5 a0 w
  have hR := Aside0.mk (chars_Fold.start w a0 hs)
  have hB := Aside0.mk (bytes_below (Below.refl w.heap.size w) (Nat.le_refl _) 5 a0)
  go_enter Tryd.func24, Tryd.ntmps24
  go_wp2
  go_loopw [4, 9] (fun v4 v9 wr => ∃ i : Nat, i ≤ a0.size ∧ v9 = .int .i64 i ∧ Aside0 (chars_Fold.row w wr a0 i) ∧ Aside0 (Below w.heap.size w wr)) (fun v4 v9 _ => a0.size - (intOf v9).toNat)
  case atStart => exact ⟨0, Nat.zero_le _, rfl, hR, hB⟩
  case round =>
    obtain ⟨i, hi, rfl, hR, hB⟩ := hrel
    by_cases hlt : i < a0.size
    · obtain ⟨hc, hf⟩ := chars_Fold.cell hR.out i hlt
      rw [if_neg (Nat.lt_irrefl _)] at hc
      go_wp2_with (go_at_call 29; refine (chars_Lower.calls _ _ _ (chars_Fold.low_is _)).mono ?_; rintro e w' ⟨rfl, ⟨n, rfl⟩⟩)
      go_roundw
      case measure => simp [intOf]; omega
      case rel =>
        refine ⟨i + 1, hlt, by go_num, ⟨?_⟩, ⟨?_⟩⟩
        · exact chars_Fold.next (wr := wr.drewN n) hR.out hlt
        · exact (pw_below_drewN hB.out n).setCell (Nat.le_refl _) _
    · have e : i = a0.size := by omega
      subst e
      have hcv2 : (convert 22 9 (.slice (some ⟨w.heap.size, 0, none⟩) a0.size (grownCap w a0.size 0 5))).run Tryd.prog wr = .ok (.string (strOfNums ((bytesOf a0).map chars_Fold.low))) wr := Kd.C_string (P := Tryd.prog) Tryd.underlying22 Tryd.underlying5 Tryd.underlying9 (chars_Fold.reads hR.out hs)
      go_wp2
      go_ret
      exact ⟨rfl, hB.out⟩

-- NOT PRINTED: function 14 (charset_find)

end Go.Proofs.YtoihcdahloddkaaDoor.P
