-- Written by a program of this session (wip/tools/mk.sh) for this claim: it runs the kit's print with contracts of our own. Lean checks it.
import Derived.Test.YtfpdamppppbkiaaPx0
import Derived.Test.YtfpdamppppbkiaaZEm
namespace Go.Proofs.Ytfpdamppppbkiaa.P
open Go.RowKit Go.Proofs.YtfpdamppppbkiaaW.PrintWords Go.Proofs.YtfpdamppppbkiaaW.PrintLast Go.Proofs.YtfpdamppppbkiaaW.PrintMore
attribute [-simp] Int.tmod_tmod_of_dvd
attribute [local go_sem] max2_int min2_int max_two min_two max_three min_three max_four min_four   -- for this text's walks alone
set_option linter.unusedVariables false
set_option linter.unusedSimpArgs false

/-! ### lines_Within: function 12 -/
def lines_Within.f (a0_0 : Int) (a0_1 : Int) (a1 : Int) : Option (Bool) := if a0_0 ≥ 0 then (if a0_0 ≤ a0_1 then (some (decide (a0_1 ≤ a1))) else (some false)) else (some false)
set_option maxHeartbeats 8000000 in
set_option maxRecDepth 100000 in
theorem lines_Within.calls (a0_0 : Int) (a0_1 : Int) (a1 : Int) (r : Bool) (w : World) (h : lines_Within.f a0_0 a0_1 a1 = some r) :
    Calls Try.prog 12 #[.agg #[.int .i64 a0_0, .int .i64 a0_1], .int .i64 a1] w fun e w' => e = .returned (.bool r) ∧ Below w.heap.size w w' := by
  have hu27 := Try.underlying27
  have HB := Aside0.mk (Below.refl w.heap.size w)
  have H : (if a0_0 ≥ 0 then (if a0_0 ≤ a0_1 then (some (decide (a0_1 ≤ a1))) else (some false)) else (some false)) = some r := h
  clear h
  by_cases c3 : a0_0 ≥ 0
  · rw [if_pos c3] at H
    have c3b0 : decide (0 ≤ a0_0) = true := decide_eq_true c3
    clear c3
    by_cases c4 : a0_0 ≤ a0_1
    · rw [if_pos c4] at H
      have c4b0 : decide (a0_0 ≤ a0_1) = true := decide_eq_true c4
      clear c4
      obtain rfl := Option.some.inj H
      go_enter Try.func12, Try.ntmps12
      go_wp2_with (first | ((with_reducible refine gate_dst (N := 2) rfl ?_); refine box_event ?hg (N := 2) ?hd (cs := #[.int .i64 a0_0, .int .i64 a0_1]) (t := 27) ?hr ?_; (case hd => rfl); (case hg => rfl); (case hr => first | (go_simp; done) | (go_simp; rfl)); intro gb101 hg w5 hbox hb; have n0_ := Aside0.mk (below_step (by repeat (first | (with_reducible first | exact HB.out | apply below_alloc | apply pw_below_drewN | apply below_drew1) | exact HB.out)) hb); have n1_ := Aside0.mk (hbox); have n2_ := Aside0.mk ((by rw [hg]; exact (below_size (by repeat (first | (with_reducible first | exact HB.out | apply below_alloc | apply pw_below_drewN | apply below_drew1) | exact HB.out))) : w.heap.size ≤ gb101)); have n3_ := Aside0.mk ((by rw [hg]; exact (below_size (by repeat (first | (with_reducible first | exact HB.out | apply below_alloc | apply pw_below_drewN | apply below_drew1) | exact HB.out))) : w.heap.size ≤ gb101)); clear HB; have HB := n0_; have BK101 := n1_; have GW101 := n2_; have GE101 := n3_; clear n0_ n1_ n2_ n3_; clear hb hbox hg; have hcz6_0 : w5.cell? ⟨gb101, 0, none⟩ = some (.int .i64 a0_0) := (blk_cell BK101.out 0).trans rfl; have hcz6_1 : w5.cell? ⟨gb101, 1, none⟩ = some (.int .i64 a0_1) := (blk_cell BK101.out 1).trans rfl; have hfz6_0 := blk_frozen BK101.out 0; have hfz6_1 := blk_frozen BK101.out 1))
      go_ret
      exact ⟨by first | rfl | (simp [errW_none, errW_some] <;> rfl) | (simp [*, errW_none, errW_some] <;> rfl), by repeat (first | (with_reducible first | exact HB.out | apply below_alloc | apply pw_below_drewN | apply below_drew1 | refine below_set ?_ GE101.out) | exact HB.out)⟩
    · rw [if_neg c4] at H
      have c4b0 : decide (a0_0 ≤ a0_1) = false := decide_eq_false c4
      clear c4
      obtain rfl := Option.some.inj H
      go_enter Try.func12, Try.ntmps12
      go_wp2_with (first | ((with_reducible refine gate_dst (N := 2) rfl ?_); refine box_event ?hg (N := 2) ?hd (cs := #[.int .i64 a0_0, .int .i64 a0_1]) (t := 27) ?hr ?_; (case hd => rfl); (case hg => rfl); (case hr => first | (go_simp; done) | (go_simp; rfl)); intro gb101 hg w7 hbox hb; have n0_ := Aside0.mk (below_step (by repeat (first | (with_reducible first | exact HB.out | apply below_alloc | apply pw_below_drewN | apply below_drew1) | exact HB.out)) hb); have n1_ := Aside0.mk (hbox); have n2_ := Aside0.mk ((by rw [hg]; exact (below_size (by repeat (first | (with_reducible first | exact HB.out | apply below_alloc | apply pw_below_drewN | apply below_drew1) | exact HB.out))) : w.heap.size ≤ gb101)); have n3_ := Aside0.mk ((by rw [hg]; exact (below_size (by repeat (first | (with_reducible first | exact HB.out | apply below_alloc | apply pw_below_drewN | apply below_drew1) | exact HB.out))) : w.heap.size ≤ gb101)); clear HB; have HB := n0_; have BK101 := n1_; have GW101 := n2_; have GE101 := n3_; clear n0_ n1_ n2_ n3_; clear hb hbox hg; have hcz8_0 : w7.cell? ⟨gb101, 0, none⟩ = some (.int .i64 a0_0) := (blk_cell BK101.out 0).trans rfl; have hcz8_1 : w7.cell? ⟨gb101, 1, none⟩ = some (.int .i64 a0_1) := (blk_cell BK101.out 1).trans rfl; have hfz8_0 := blk_frozen BK101.out 0; have hfz8_1 := blk_frozen BK101.out 1))
      go_ret
      exact ⟨by first | rfl | (simp [errW_none, errW_some] <;> rfl) | (simp [*, errW_none, errW_some] <;> rfl), by repeat (first | (with_reducible first | exact HB.out | apply below_alloc | apply pw_below_drewN | apply below_drew1 | refine below_set ?_ GE101.out) | exact HB.out)⟩
  · rw [if_neg c3] at H
    have c3b0 : decide (0 ≤ a0_0) = false := decide_eq_false c3
    clear c3
    obtain rfl := Option.some.inj H
    go_enter Try.func12, Try.ntmps12
    go_wp2_with (first | ((with_reducible refine gate_dst (N := 2) rfl ?_); refine box_event ?hg (N := 2) ?hd (cs := #[.int .i64 a0_0, .int .i64 a0_1]) (t := 27) ?hr ?_; (case hd => rfl); (case hg => rfl); (case hr => first | (go_simp; done) | (go_simp; rfl)); intro gb101 hg w9 hbox hb; have n0_ := Aside0.mk (below_step (by repeat (first | (with_reducible first | exact HB.out | apply below_alloc | apply pw_below_drewN | apply below_drew1) | exact HB.out)) hb); have n1_ := Aside0.mk (hbox); have n2_ := Aside0.mk ((by rw [hg]; exact (below_size (by repeat (first | (with_reducible first | exact HB.out | apply below_alloc | apply pw_below_drewN | apply below_drew1) | exact HB.out))) : w.heap.size ≤ gb101)); have n3_ := Aside0.mk ((by rw [hg]; exact (below_size (by repeat (first | (with_reducible first | exact HB.out | apply below_alloc | apply pw_below_drewN | apply below_drew1) | exact HB.out))) : w.heap.size ≤ gb101)); clear HB; have HB := n0_; have BK101 := n1_; have GW101 := n2_; have GE101 := n3_; clear n0_ n1_ n2_ n3_; clear hb hbox hg; have hcz10_0 : w9.cell? ⟨gb101, 0, none⟩ = some (.int .i64 a0_0) := (blk_cell BK101.out 0).trans rfl; have hcz10_1 : w9.cell? ⟨gb101, 1, none⟩ = some (.int .i64 a0_1) := (blk_cell BK101.out 1).trans rfl; have hfz10_0 := blk_frozen BK101.out 0; have hfz10_1 := blk_frozen BK101.out 1))
    go_ret
    exact ⟨by first | rfl | (simp [errW_none, errW_some] <;> rfl) | (simp [*, errW_none, errW_some] <;> rfl), by repeat (first | (with_reducible first | exact HB.out | apply below_alloc | apply pw_below_drewN | apply below_drew1 | refine below_set ?_ GE101.out) | exact HB.out)⟩

-- NOT PRINTED: function 20 (lines_Line_20)

-- NOT PRINTED: function 16 (lines_Line_16)

-- NOT PRINTED: function 17 (lines_all)

/-! ### lines_Of: function 8 -/
def lines_Of.f (l0 : List Int) (a1_0 : Int) (a1_1 : Int) : Option (List S29) := if l0.length ≤ 100000 then some (if 0 ≤ a1_0 ∧ a1_0 ≤ a1_1 ∧ a1_1 ≤ (l0.length : Int) then ln_from l0 a1_1.toNat a1_0.toNat else []) else none
theorem lines_Of.calls (A0 : Option Addr) (c0 : Nat) (l0 : List Int) (a1_0 : Int) (a1_1 : Int) (r1 : List S29) (w : World) (hr0 : Kd.C (Kd.int .u8) w A0 l0.length l0) (hc0 : l0.length ≤ c0) (h : lines_Of.f l0 a1_0 a1_1 = some r1) :
    Calls Try.prog 8 #[.slice A0 l0.length c0, .agg #[.int .i64 a1_0, .int .i64 a1_1]] w fun e w' => ∃ v0_, e = .returned v0_ ∧ Kd.R k29 29 w' w.heap.size (fun _ => True) v0_ r1 ∧ Below w.heap.size w w' := by
  unfold lines_Of.f at h
  by_cases hl : l0.length ≤ 100000
  · rw [if_pos hl] at h
    obtain rfl := Option.some.inj h
    exact callsIn_wide.1 (ln_Of Fence.wide 7 trivial trivial trivial trivial trivial trivial trivial rfl (Nat.le_refl _) A0 c0 l0 a1_0 a1_1 hl hc0 w hr0)
  · rw [if_neg hl] at h
    exact absurd h (by simp)

/-! ### lines_Text: function 9 -/
def lines_Text.f (l0 : List Int) (a1_0 : Int) (a1_1 : Int) (a1_2 : Int) : Option ByteArray := some (ln_txt l0 a1_0 a1_1)
theorem lines_Text.calls (A0 : Option Addr) (c0 : Nat) (l0 : List Int) (a1_0 : Int) (a1_1 : Int) (a1_2 : Int) (r : ByteArray) (w : World) (hr0 : Kd.C (Kd.int .u8) w A0 l0.length l0) (hc0 : l0.length ≤ c0) (h : lines_Text.f l0 a1_0 a1_1 a1_2 = some r) :
    Calls Try.prog 9 #[.slice A0 l0.length c0, .agg #[.int .i64 a1_0, .int .i64 a1_1, .int .i64 a1_2]] w fun e w' => e = .returned (.string r) ∧ Below w.heap.size w w' := by
  obtain rfl := Option.some.inj h
  exact ln_Text A0 c0 l0 a1_0 a1_1 a1_2 w hr0 hc0

-- NOT PRINTED: function 18 (lines_Line_18)

/-! ### lines_Empty: function 14 -/
def lines_Empty.f (l0 : List S29) : Option Int := if l0.length ≤ 100000 then some (ln_emr l0) else none
theorem lines_Empty.calls (A0 : Option Addr) (c0 : Nat) (l0 : List S29) (r : Int) (w : World) (hr0 : Kd.C k29 w A0 l0.length l0) (hc0 : l0.length ≤ c0) (h : lines_Empty.f l0 = some r) :
    Calls Try.prog 14 #[.slice A0 l0.length c0] w fun e w' => e = .returned (.int .i64 r) ∧ Below w.heap.size w w' := by
  unfold lines_Empty.f at h
  by_cases hl : l0.length ≤ 100000
  · rw [if_pos hl] at h
    obtain rfl := Option.some.inj h
    exact ln_Empty A0 c0 l0 w hr0 hl
  · rw [if_neg hl] at h
    exact absurd h (by simp)

/-! ### letterboxlaw05_awake: function 7 -/
def letterboxlaw05_awake.f : Option Bool := some true
set_option maxHeartbeats 2000000 in
theorem letterboxlaw05_awake.calls (r : Bool) (w : World) (h : letterboxlaw05_awake.f = some r) :
    Calls Try.prog 7 #[] w fun e w' => e = .returned (.bool r) ∧ Below w.heap.size w w' := by
  obtain rfl := Option.some.inj h
  clear h
  have kc := fun (w : World) (C : Array Value) (n c : Nat) => Lib.run_convert_bytes_const (P := Try.prog) w 22 5 C n c Try.underlying22 Try.underlying5
  go_enter Try.func7, Try.ntmps7
  go_wp2_with fail
  refine (lines_Of.calls (some ⟨w.heap.size, 0, none⟩) 4 [97, 13, 10, 98] 0 4 [⟨0, 1, 3⟩, ⟨3, 4, 4⟩] _ (Aids.const_C _ (by decide) (heap_alloc_new _ _)) (by decide) (by kernel_rfl)).mono ?_
  rintro e w1 ⟨v1, rfl, hR1, hb1⟩
  obtain ⟨A1, cc1, rfl⟩ := Kd.R_slice hR1
  have HR1 := Aside0.mk hR1
  have HB1 := Aside0.mk hb1
  obtain ⟨ad, e1, hx0, hx1, hx2⟩ := at_T29 (Kd.R_reads' hR1).2.2 0 (by decide) (by decide)
  cases e1
  obtain ⟨ad2, e2, hy0, hy1, hy2⟩ := at_T29 (Kd.R_reads' hR1).2.2 1 (by decide) (by decide)
  cases e2
  obtain ⟨g, rfl⟩ : ∃ g, ad = ⟨g, 0, none⟩ := by
    obtain ⟨_, inner, ho, _⟩ := hR1
    rcases ho.2 with ⟨e, _⟩ | ⟨g, cap, cur, e, _⟩
    · cases e
    · exact ⟨g, by cases e; rfl⟩
  have lb := World.block_lt_of_cell? w1 _ hx0
  have al := fun o => below_alloc (Below.refl w1.heap.size w1) o
  have k1 : w1.cell? ⟨g, 0 + 1, none⟩ = some (.int .i64 1) := hx1
  have k2 : w1.cell? ⟨g, 0 + 2, none⟩ = some (.int .i64 3) := hx2
  have m1 : w1.cell? ⟨g, 0 + 3 + 1, none⟩ = some (.int .i64 4) := hy1
  have m0a : ∀ o, (w1.alloc o).cell? ⟨g, 0 + 3, none⟩ = some (.int .i64 3) := fun o => ((al o).cell (p := ⟨g, 0 + 3, none⟩) lb).trans hy0
  have m1a : ∀ o, (w1.alloc o).cell? ⟨g, 0 + 3 + 1, none⟩ = some (.int .i64 4) := fun o => ((al o).cell (p := ⟨g, 0 + 3 + 1, none⟩) lb).trans hy1
  have m2a : ∀ o, (w1.alloc o).cell? ⟨g, 0 + 3 + 2, none⟩ = some (.int .i64 4) := fun o => ((al o).cell (p := ⟨g, 0 + 3 + 2, none⟩) lb).trans hy2
  simp only [Nat.zero_add, Nat.reduceAdd] at k1 k2 m1 m0a m1a m2a
  clear hb1 hR1 hx0 hx1 hx2 hy0 hy1 hy2
  go_wp2_with fail
  refine (lines_Text.calls (some ⟨w1.heap.size, 0, none⟩) 4 [97, 13, 10, 98] 3 4 4 ⟨#[98]⟩ _ (Aids.const_C _ (by decide) (heap_alloc_new _ _)) (by decide) (by kernel_rfl)).mono ?_
  rintro e w2 ⟨rfl, hb2⟩
  have HB2 := Aside0.mk hb2
  clear hb2
  go_wp2_with fail
  have s1 := HB1.out.size
  have s2 := HB2.out.size
  simp at s1 s2
  have bel2 : Below w.heap.size w w2 := ((((Below.refl _ _).alloc (Nat.le_refl _) _).trans (HB1.out.mono (by simp))).alloc (by omega) _).trans (HB2.out.mono (by simp; omega))
  refine (lines_Empty.calls (some ⟨g, 0, none⟩) cc1 [⟨0, 1, 3⟩, ⟨3, 4, 4⟩] (-1) _ (Kd.C_below (Kd.R_reads' HR1.out).2.2 (((below_alloc (Below.refl _ _) _)).trans (HB2.out.mono (by simp)))) ?hcap (by kernel_rfl)).mono ?_
  case hcap =>
    obtain ⟨_, inner, ho, _⟩ := HR1.out
    rcases ho.2 with ⟨e, _⟩ | ⟨q, cap, cur, e, hq⟩
    · cases e
    · cases e; exact hq.2.2.1
  rintro e w3 ⟨rfl, hb3⟩
  go_wp2_with fail
  go_ret
  exact ⟨rfl, bel2.trans (hb3.mono (by omega))⟩

/-! ### letterboxref05_Within: function 13 -/
def letterboxref05_Within.f (a0 : Int) (a1 : Int) (a2 : Int) : Option (Bool) := if 0 ≤ a0 then (if a0 ≤ a1 then (some (decide (a1 ≤ a2))) else (some false)) else (some false)
set_option maxHeartbeats 8000000 in
set_option maxRecDepth 100000 in
theorem letterboxref05_Within.calls (a0 : Int) (a1 : Int) (a2 : Int) (r : Bool) (w : World) (h : letterboxref05_Within.f a0 a1 a2 = some r) :
    Calls Try.prog 13 #[.int .i64 a0, .int .i64 a1, .int .i64 a2] w fun e w' => e = .returned (.bool r) ∧ Drawn0 w w' := by
  have H : (if 0 ≤ a0 then (if a0 ≤ a1 then (some (decide (a1 ≤ a2))) else (some false)) else (some false)) = some r := h
  clear h
  by_cases c4 : 0 ≤ a0
  · rw [if_pos c4] at H
    have c4b0 : decide (0 ≤ a0) = true := decide_eq_true c4
    clear c4
    by_cases c5 : a0 ≤ a1
    · rw [if_pos c5] at H
      have c5b0 : decide (a0 ≤ a1) = true := decide_eq_true c5
      clear c5
      obtain rfl := Option.some.inj H
      go_enter Try.func13, Try.ntmps13
      go_wp2
      go_ret
      exact ⟨by first | rfl | (simp; done) | (simp [*]; done), by repeat (first | exact Drawn0.refl _ | apply Drawn0.step)⟩
    · rw [if_neg c5] at H
      have c5b0 : decide (a0 ≤ a1) = false := decide_eq_false c5
      clear c5
      obtain rfl := Option.some.inj H
      go_enter Try.func13, Try.ntmps13
      go_wp2
      go_ret
      exact ⟨by first | rfl | (simp; done) | (simp [*]; done), by repeat (first | exact Drawn0.refl _ | apply Drawn0.step)⟩
  · rw [if_neg c4] at H
    have c4b0 : decide (0 ≤ a0) = false := decide_eq_false c4
    clear c4
    obtain rfl := Option.some.inj H
    go_enter Try.func13, Try.ntmps13
    go_wp2
    go_ret
    exact ⟨by first | rfl | (simp; done) | (simp [*]; done), by repeat (first | exact Drawn0.refl _ | apply Drawn0.step)⟩

/-! ### letterboxref05_Of: function 10 -/
def letterboxref05_Of.l0 : Nat → ByteArray → Int → List (S41) → Int → Int → Option ((List (S41)))
  | 0, _, _, _, _, _ => none
  | k + 1, x0, x2, x8, x9, x10 => if x10 < x2 then (if 0 ≤ x10 then (if x10 < (x0.size : Int) then (if (bt x0 x10) = 10 then (if x10 > x9 then (if 0 ≤ (wrap64 (x10 - 1)) then (if (wrap64 (x10 - 1)) < (x0.size : Int) then (if (bt x0 (wrap64 (x10 - 1))) = 13 then (if x8.length < 5864062014805 then (letterboxref05_Of.l0 k x0 x2 (x8 ++ [(⟨x9, wrap64 (x10 - 1), wrap64 (x10 + 1)⟩ : S41)]) (wrap64 (x10 + 1)) (wrap64 (x10 + 1))) else (none)) else (if x8.length < 5864062014805 then (letterboxref05_Of.l0 k x0 x2 (x8 ++ [(⟨x9, x10, wrap64 (x10 + 1)⟩ : S41)]) (wrap64 (x10 + 1)) (wrap64 (x10 + 1))) else (none))) else (none)) else (none)) else (if x8.length < 5864062014805 then (letterboxref05_Of.l0 k x0 x2 (x8 ++ [(⟨x9, x10, wrap64 (x10 + 1)⟩ : S41)]) (wrap64 (x10 + 1)) (wrap64 (x10 + 1))) else (none))) else (letterboxref05_Of.l0 k x0 x2 x8 x9 (wrap64 (x10 + 1)))) else (none)) else (none)) else (if x9 < x2 then (if x8.length < 5864062014805 then (some (x8 ++ [(⟨x9, x2, x2⟩ : S41)])) else (none)) else (some x8))
def letterboxref05_Of.f (k : Nat) (a0 : ByteArray) (a1 : Int) (a2 : Int) : Option ((List (S41))) := (letterboxref05_Within.f a1 a2 (a0.size : Int)).bind fun t102 => (if t102 = true then (letterboxref05_Of.l0 k a0 a2 ([] : List (S41)) a1 a1) else (some ([] : List (S41))))
theorem letterboxref05_Of.mono_l : ∀ k, (∀ y0 y1 y2 y3 y4, LeO (letterboxref05_Of.l0 k y0 y1 y2 y3 y4) (letterboxref05_Of.l0 (k + 1) y0 y1 y2 y3 y4))
  | 0 => fun _ _ _ _ _ r h => by simp [letterboxref05_Of.l0] at h
  | k + 1 => by
    have ih0 := letterboxref05_Of.mono_l k
    · intro y0 y1 y2 y3 y4
      unfold letterboxref05_Of.l0
      repeat' first
      | (with_reducible exact ih0 _ _ _ _ _)
      | (with_reducible exact LeO.refl _)
      | (with_reducible exact LeO.none _)
      | (with_reducible refine LeO.ite ?_ ?_)
      | (with_reducible refine LeO.bind ?_ (fun _ => ?_))
      | exact ih0 _ _ _ _ _
      | exact LeO.none _
      | refine LeO.ite ?_ ?_
      | refine LeO.bind ?_ (fun _ => ?_)
theorem letterboxref05_Of.mono : ∀ a0 a1 a2 k, LeO (letterboxref05_Of.f k a0 a1 a2) (letterboxref05_Of.f (k + 1) a0 a1 a2) := by
  intro a0 a1 a2 k
  have ih0 := letterboxref05_Of.mono_l k
  unfold letterboxref05_Of.f
  repeat' first
      | (with_reducible exact ih0 _ _ _ _ _)
      | (with_reducible exact LeO.refl _)
      | (with_reducible exact LeO.none _)
      | (with_reducible refine LeO.ite ?_ ?_)
      | (with_reducible refine LeO.bind ?_ (fun _ => ?_))
      | exact ih0 _ _ _ _ _
      | exact LeO.none _
      | refine LeO.ite ?_ ?_
      | refine LeO.bind ?_ (fun _ => ?_)
set_option maxHeartbeats 8000000 in
set_option maxRecDepth 100000 in
theorem letterboxref05_Of.calls (k : Nat) (a0 : ByteArray) (a1 : Int) (a2 : Int) (r : List (S41)) (w : World) (h : letterboxref05_Of.f k a0 a1 a2 = some r) :
    Calls Try.prog 10 #[.string a0, .int .i64 a1, .int .i64 a2] w fun e w' => ∃ v0_ : Value, e = .returned (v0_) ∧ Kd.R k41 41 w' w.heap.size (fun _ => True) v0_ r ∧ Below w.heap.size w w' := by
  have hu41 := Try.underlying41
  have HB := Aside0.mk (Below.refl w.heap.size w)
  have H : ((letterboxref05_Within.f a1 a2 (a0.size : Int)).bind fun t102 => (if t102 = true then (letterboxref05_Of.l0 k a0 a2 ([] : List (S41)) a1 a1) else (some ([] : List (S41))))) = some r := h
  clear h
  replace H := Option.bind_eq_some_iff.mp H
  obtain ⟨t102, A40, H⟩ := H
  replace H : (if t102 = true then (letterboxref05_Of.l0 k a0 a2 ([] : List (S41)) a1 a1) else (some ([] : List (S41)))) = some r := H
  have A4 := Aside0.mk A40
  clear A40
  by_cases c5 : t102 = true
  · subst c5
    have H1 : (letterboxref05_Of.l0 k a0 a2 ([] : List (S41)) a1 a1) = some r := by rw [if_pos rfl] at H; exact H
    clear H
    have H := H1
    clear H1
    have H' := Aside0.mk H
    clear H
    go_enter Try.func10, Try.ntmps10
    go_wp2_with (first | ((with_reducible refine gate_callee (f := 13) rfl ?_); refine goesL_ (some 16) rfl rfl Try.func13 (by kernel_rfl) rfl #[.int .i64 a1, .int .i64 a2, .int .i64 (a0.size : Int)] rfl (by (try simp only [List.map_toArray, List.map_cons, List.map_nil]); first | done | rfl | (simp only [List.length_drop, List.length_take]; rfl)) ?_; (with_reducible refine (letterboxref05_Within.calls a1 a2 (a0.size : Int) true _ A4.out).mono ?_); rintro e w' ⟨rfl, ⟨nd, rfl⟩⟩; refine ⟨_, rfl, ?_⟩))
    go_loopg [8, 9, 10] k (fun kq v8 v9 v10 w' => ∃ (x8_1 : List (S41)) (x9_1 : Int) (x10_1 : Int), v9 = .int .i64 x9_1 ∧ v10 = .int .i64 x10_1 ∧ Aside0 (letterboxref05_Of.l0 kq a0 a2 x8_1 x9_1 x10_1 = some r) ∧ Aside0 (kq ≤ k) ∧ Aside0 (Kd.R k41 41 w' w.heap.size (fun _ => True) v8 x8_1) ∧ Aside0 (Below w.heap.size w w'))
    case atStart => exact ⟨(([] : List (S41))), (a1), (a1), (by first | rfl | (simp; done) | (simp [*]; done)), (by first | rfl | (simp; done) | (simp [*]; done)), H', ⟨Nat.le_refl _⟩, ⟨by first | exact Kd.R_nil _ _ _ _ _ | exact Kd.N_nil _ _ _ _ _ | exact Kd.V_nil _ _ _ _ _ | exact Kd.Q_nil _ _ _ _ _ | exact Kd.S_nil _ _ _ _ _⟩, ⟨by repeat (first | (with_reducible first | exact HB.out | apply below_alloc | apply pw_below_drewN | apply below_drew1) | exact HB.out)⟩⟩
    case round =>
      clear H'
      try clear c1
      try clear p2
      try clear c5
      obtain ⟨x8_1, x9_1, x10_1, rfl, rfl, HA, HK1, HO_8, HB⟩ := hrel
      cases gk with
      | zero => exact absurd HA.out (by simp [letterboxref05_Of.l0])
      | succ k1 =>
        have H := HA.out
        clear HA
        simp only [letterboxref05_Of.l0] at H
        by_cases c6 : x10_1 < a2
        · rw [if_pos c6] at H
          have c6b0 : decide (x10_1 < a2) = true := decide_eq_true c6
          clear c6
          by_cases c7 : 0 ≤ x10_1
          · rw [if_pos c7] at H
            have c7b0 : decide (0 ≤ x10_1) = true := decide_eq_true c7
            clear c7
            by_cases c8 : x10_1 < (a0.size : Int)
            · rw [if_pos c8] at H
              have c8b0 : decide (x10_1 < (a0.size : Int)) = true := decide_eq_true c8
              clear c8
              by_cases c10 : (bt a0 x10_1) = 10
              · rw [if_pos c10] at H
                have c10b0 : ((bt a0 x10_1) == 10) = true := beq_iff_eq.mpr c10
                have c10b1 : ((bt a0 x10_1) != 10) = false := bne_eq_false_iff_eq.mpr c10
                clear c10
                by_cases c11 : x10_1 > x9_1
                · rw [if_pos c11] at H
                  have c11b0 : decide (x9_1 < x10_1) = true := decide_eq_true c11
                  clear c11
                  obtain ⟨ji12, hji12⟩ : ∃ j_ : Int, (wrap64 (x10_1 - 1)) = j_ := ⟨_, rfl⟩
                  replace H : (if 0 ≤ (ji12) then (if (ji12) < (a0.size : Int) then (if (bt a0 (ji12)) = 13 then (if x8_1.length < 5864062014805 then (letterboxref05_Of.l0 k1 a0 a2 (x8_1 ++ [(⟨x9_1, ji12, wrap64 (x10_1 + 1)⟩ : S41)]) (wrap64 (x10_1 + 1)) (wrap64 (x10_1 + 1))) else (none)) else (if x8_1.length < 5864062014805 then (letterboxref05_Of.l0 k1 a0 a2 (x8_1 ++ [(⟨x9_1, x10_1, wrap64 (x10_1 + 1)⟩ : S41)]) (wrap64 (x10_1 + 1)) (wrap64 (x10_1 + 1))) else (none))) else (none)) else (none)) = some r := by first | (rw [hji12] at H; exact H) | (simp only [hji12] at H ⊢; exact H)
                  have hji12w : (IntKind.i64.wrap (x10_1 - 1)) = ji12 := (i64_w _).trans hji12
                  by_cases c13 : 0 ≤ (ji12)
                  · rw [if_pos c13] at H
                    have c13b0 : decide (0 ≤ (ji12)) = true := decide_eq_true c13
                    clear c13
                    by_cases c14 : (ji12) < (a0.size : Int)
                    · rw [if_pos c14] at H
                      have c14b0 : decide ((ji12) < (a0.size : Int)) = true := decide_eq_true c14
                      clear c14
                      by_cases c16 : (bt a0 (ji12)) = 13
                      · rw [if_pos c16] at H
                        have c16b0 : ((bt a0 (ji12)) == 13) = true := beq_iff_eq.mpr c16
                        have c16b1 : ((bt a0 (ji12)) != 13) = false := bne_eq_false_iff_eq.mpr c16
                        clear c16
                        by_cases c17 : x8_1.length < 5864062014805
                        · rw [if_pos c17] at H
                          have LMc17 := Aside0.mk c17
                          clear c17
                          obtain ⟨y106, hy106⟩ : ∃ y_ : List (S41), y_ = (x8_1 ++ [(⟨x9_1, ji12, wrap64 (x10_1 + 1)⟩ : S41)]) := ⟨_, rfl⟩
                          replace H : (letterboxref05_Of.l0 k1 a0 a2 y106 (wrap64 (x10_1 + 1)) (wrap64 (x10_1 + 1))) = some r := by first | (rw [hy106]; with_reducible exact H) | (have H2_ := (Option.bind_some _ _).symm.trans H; rw [hy106]; with_reducible exact H2_) | (have H2_ := (Option.bind_some _ _).symm.trans H; with_reducible exact H2_) | with_reducible exact H | (rw [hy106]; exact H) | exact H
                          have Ny106 := Aside0.mk hy106
                          clear hy106
                          have H' := Aside0.mk H
                          clear H
                          have p9 : 0 ≤ (x10_1 : Int) := of_decide_eq_true (by first | (with_reducible assumption) | assumption)
                          have q9 : x10_1 < (a0.size : Int) := of_decide_eq_true (by first | (with_reducible assumption) | assumption)
                          have hx9 := bt_at a0 x10_1
                          replace p9 := eq_true p9
                          replace q9 := eq_true q9
                          have p15 : 0 ≤ ((ji12) : Int) := of_decide_eq_true (by first | (with_reducible assumption) | assumption)
                          have q15 : (ji12) < (a0.size : Int) := of_decide_eq_true (by first | (with_reducible assumption) | assumption)
                          have hx15 := bt_at a0 (ji12)
                          replace p15 := eq_true p15
                          replace q15 := eq_true q15
                          go_wp2_with (first | ((with_reducible refine gate_builtin (b := .append) (xs := #[.tmp 43, .tmp 49]) rfl ?_); at_builtin; refine Kd.R_append k41 (w0 := w) w.heap.size rfl (.tmp 43) (.tmp 49) 34 41 (.agg #[(.int .i64 0), (.int .i64 0), (.int .i64 0)]) 24 rfl Try.underlying34 info41 rfl (by decide) (by omega) u8 x8_1 (⟨x9_1, ji12, wrap64 (x10_1 + 1)⟩ : S41) [.int .i64 x9_1, .int .i64 ji12, .int .i64 (wrap64 (x10_1 + 1))] (fun _ => True) (fun _ => False) rfl rfl ?aP (fun _ hk => hk.elim) ?aF ?aO ?aB ?aS ?aL ?_; (case aP => exact k41_mkM _ _ _ (⟨x9_1, ji12, wrap64 (x10_1 + 1)⟩ : S41)); (case aB => exact (by repeat (first | (with_reducible first | exact HB.out | apply below_alloc | apply pw_below_drewN | apply below_drew1) | exact HB.out))); (case aF => exact (fun _ _ => trivial)); (case aO => exact (by (with_reducible repeat (first | apply Kd.R_alloc | apply Kd.R_drewN | apply Kd.R_drew)); exact HO_8.out)); (case aS => exact (below_size (by repeat (first | (with_reducible first | exact HB.out | apply below_alloc | apply pw_below_drewN | apply below_drew1) | exact HB.out)))); (case aL => have := LMc17.out; omega); intro v107 w18 ho hb hg hat; rw [← Ny106.out] at ho; have n0_ := Aside0.mk (hb); have n1_ := Aside0.mk (ho); clear HB; clear HO_8; have HB := n0_; have HO108 := n1_; clear n0_ n1_; clear ho hb hg hat))
                          go_roundg k1
                          case measure => have := HK1.out; omega
                          case rel => exact ⟨(y106), (wrap64 (x10_1 + 1)), (wrap64 (x10_1 + 1)), (by first | rfl | (simp; done) | (simp [*]; done)), (by first | rfl | (simp; done) | (simp [*]; done)), H', ⟨by have := HK1.out; omega⟩, ⟨by (with_reducible repeat (first | apply Kd.R_alloc | apply Kd.R_drewN | apply Kd.R_drew)); exact HO108.out⟩, ⟨by repeat (first | (with_reducible first | exact HB.out | apply below_alloc | apply pw_below_drewN | apply below_drew1) | exact HB.out)⟩⟩
                        · rw [if_neg c17] at H
                          exact absurd H (by simp)
                      · rw [if_neg c16] at H
                        have c16b0 : ((bt a0 (ji12)) == 13) = false := beq_eq_false_iff_ne.mpr c16
                        have c16b1 : ((bt a0 (ji12)) != 13) = true := bne_iff_ne.mpr c16
                        by_cases c19 : x8_1.length < 5864062014805
                        · rw [if_pos c19] at H
                          have LMc19 := Aside0.mk c19
                          clear c19
                          obtain ⟨y109, hy109⟩ : ∃ y_ : List (S41), y_ = (x8_1 ++ [(⟨x9_1, x10_1, wrap64 (x10_1 + 1)⟩ : S41)]) := ⟨_, rfl⟩
                          replace H : (letterboxref05_Of.l0 k1 a0 a2 y109 (wrap64 (x10_1 + 1)) (wrap64 (x10_1 + 1))) = some r := by first | (rw [hy109]; with_reducible exact H) | (have H2_ := (Option.bind_some _ _).symm.trans H; rw [hy109]; with_reducible exact H2_) | (have H2_ := (Option.bind_some _ _).symm.trans H; with_reducible exact H2_) | with_reducible exact H | (rw [hy109]; exact H) | exact H
                          have Ny109 := Aside0.mk hy109
                          clear hy109
                          have H' := Aside0.mk H
                          clear H
                          have p9 : 0 ≤ (x10_1 : Int) := of_decide_eq_true (by first | (with_reducible assumption) | assumption)
                          have q9 : x10_1 < (a0.size : Int) := of_decide_eq_true (by first | (with_reducible assumption) | assumption)
                          have hx9 := bt_at a0 x10_1
                          replace p9 := eq_true p9
                          replace q9 := eq_true q9
                          have p15 : 0 ≤ ((ji12) : Int) := of_decide_eq_true (by first | (with_reducible assumption) | assumption)
                          have q15 : (ji12) < (a0.size : Int) := of_decide_eq_true (by first | (with_reducible assumption) | assumption)
                          have hx15 := bt_at a0 (ji12)
                          replace p15 := eq_true p15
                          replace q15 := eq_true q15
                          go_wp2_with (first | ((with_reducible refine gate_builtin (b := .append) (xs := #[.tmp 43, .tmp 49]) rfl ?_); at_builtin; refine Kd.R_append k41 (w0 := w) w.heap.size rfl (.tmp 43) (.tmp 49) 34 41 (.agg #[(.int .i64 0), (.int .i64 0), (.int .i64 0)]) 24 rfl Try.underlying34 info41 rfl (by decide) (by omega) u8 x8_1 (⟨x9_1, x10_1, wrap64 (x10_1 + 1)⟩ : S41) [.int .i64 x9_1, .int .i64 x10_1, .int .i64 (wrap64 (x10_1 + 1))] (fun _ => True) (fun _ => False) rfl rfl ?aP (fun _ hk => hk.elim) ?aF ?aO ?aB ?aS ?aL ?_; (case aP => exact k41_mkM _ _ _ (⟨x9_1, x10_1, wrap64 (x10_1 + 1)⟩ : S41)); (case aB => exact (by repeat (first | (with_reducible first | exact HB.out | apply below_alloc | apply pw_below_drewN | apply below_drew1) | exact HB.out))); (case aF => exact (fun _ _ => trivial)); (case aO => exact (by (with_reducible repeat (first | apply Kd.R_alloc | apply Kd.R_drewN | apply Kd.R_drew)); exact HO_8.out)); (case aS => exact (below_size (by repeat (first | (with_reducible first | exact HB.out | apply below_alloc | apply pw_below_drewN | apply below_drew1) | exact HB.out)))); (case aL => have := LMc19.out; omega); intro v110 w20 ho hb hg hat; rw [← Ny109.out] at ho; have n0_ := Aside0.mk (hb); have n1_ := Aside0.mk (ho); clear HB; clear HO_8; have HB := n0_; have HO111 := n1_; clear n0_ n1_; clear ho hb hg hat))
                          go_roundg k1
                          case measure => have := HK1.out; omega
                          case rel => exact ⟨(y109), (wrap64 (x10_1 + 1)), (wrap64 (x10_1 + 1)), (by first | rfl | (simp; done) | (simp [*]; done)), (by first | rfl | (simp; done) | (simp [*]; done)), H', ⟨by have := HK1.out; omega⟩, ⟨by (with_reducible repeat (first | apply Kd.R_alloc | apply Kd.R_drewN | apply Kd.R_drew)); exact HO111.out⟩, ⟨by repeat (first | (with_reducible first | exact HB.out | apply below_alloc | apply pw_below_drewN | apply below_drew1) | exact HB.out)⟩⟩
                        · rw [if_neg c19] at H
                          exact absurd H (by simp)
                    · rw [if_neg c14] at H
                      exact absurd H (by simp)
                  · rw [if_neg c13] at H
                    exact absurd H (by simp)
                · rw [if_neg c11] at H
                  have c11b0 : decide (x9_1 < x10_1) = false := decide_eq_false c11
                  clear c11
                  by_cases c21 : x8_1.length < 5864062014805
                  · rw [if_pos c21] at H
                    have LMc21 := Aside0.mk c21
                    clear c21
                    obtain ⟨y112, hy112⟩ : ∃ y_ : List (S41), y_ = (x8_1 ++ [(⟨x9_1, x10_1, wrap64 (x10_1 + 1)⟩ : S41)]) := ⟨_, rfl⟩
                    replace H : (letterboxref05_Of.l0 k1 a0 a2 y112 (wrap64 (x10_1 + 1)) (wrap64 (x10_1 + 1))) = some r := by first | (rw [hy112]; with_reducible exact H) | (have H2_ := (Option.bind_some _ _).symm.trans H; rw [hy112]; with_reducible exact H2_) | (have H2_ := (Option.bind_some _ _).symm.trans H; with_reducible exact H2_) | with_reducible exact H | (rw [hy112]; exact H) | exact H
                    have Ny112 := Aside0.mk hy112
                    clear hy112
                    have H' := Aside0.mk H
                    clear H
                    have p9 : 0 ≤ (x10_1 : Int) := of_decide_eq_true (by first | (with_reducible assumption) | assumption)
                    have q9 : x10_1 < (a0.size : Int) := of_decide_eq_true (by first | (with_reducible assumption) | assumption)
                    have hx9 := bt_at a0 x10_1
                    replace p9 := eq_true p9
                    replace q9 := eq_true q9
                    go_wp2_with (first | ((with_reducible refine gate_builtin (b := .append) (xs := #[.tmp 43, .tmp 49]) rfl ?_); at_builtin; refine Kd.R_append k41 (w0 := w) w.heap.size rfl (.tmp 43) (.tmp 49) 34 41 (.agg #[(.int .i64 0), (.int .i64 0), (.int .i64 0)]) 24 rfl Try.underlying34 info41 rfl (by decide) (by omega) u8 x8_1 (⟨x9_1, x10_1, wrap64 (x10_1 + 1)⟩ : S41) [.int .i64 x9_1, .int .i64 x10_1, .int .i64 (wrap64 (x10_1 + 1))] (fun _ => True) (fun _ => False) rfl rfl ?aP (fun _ hk => hk.elim) ?aF ?aO ?aB ?aS ?aL ?_; (case aP => exact k41_mkM _ _ _ (⟨x9_1, x10_1, wrap64 (x10_1 + 1)⟩ : S41)); (case aB => exact (by repeat (first | (with_reducible first | exact HB.out | apply below_alloc | apply pw_below_drewN | apply below_drew1) | exact HB.out))); (case aF => exact (fun _ _ => trivial)); (case aO => exact (by (with_reducible repeat (first | apply Kd.R_alloc | apply Kd.R_drewN | apply Kd.R_drew)); exact HO_8.out)); (case aS => exact (below_size (by repeat (first | (with_reducible first | exact HB.out | apply below_alloc | apply pw_below_drewN | apply below_drew1) | exact HB.out)))); (case aL => have := LMc21.out; omega); intro v113 w22 ho hb hg hat; rw [← Ny112.out] at ho; have n0_ := Aside0.mk (hb); have n1_ := Aside0.mk (ho); clear HB; clear HO_8; have HB := n0_; have HO114 := n1_; clear n0_ n1_; clear ho hb hg hat))
                    go_roundg k1
                    case measure => have := HK1.out; omega
                    case rel => exact ⟨(y112), (wrap64 (x10_1 + 1)), (wrap64 (x10_1 + 1)), (by first | rfl | (simp; done) | (simp [*]; done)), (by first | rfl | (simp; done) | (simp [*]; done)), H', ⟨by have := HK1.out; omega⟩, ⟨by (with_reducible repeat (first | apply Kd.R_alloc | apply Kd.R_drewN | apply Kd.R_drew)); exact HO114.out⟩, ⟨by repeat (first | (with_reducible first | exact HB.out | apply below_alloc | apply pw_below_drewN | apply below_drew1) | exact HB.out)⟩⟩
                  · rw [if_neg c21] at H
                    exact absurd H (by simp)
              · rw [if_neg c10] at H
                have c10b0 : ((bt a0 x10_1) == 10) = false := beq_eq_false_iff_ne.mpr c10
                have c10b1 : ((bt a0 x10_1) != 10) = true := bne_iff_ne.mpr c10
                have H' := Aside0.mk H
                clear H
                have p9 : 0 ≤ (x10_1 : Int) := of_decide_eq_true (by first | (with_reducible assumption) | assumption)
                have q9 : x10_1 < (a0.size : Int) := of_decide_eq_true (by first | (with_reducible assumption) | assumption)
                have hx9 := bt_at a0 x10_1
                replace p9 := eq_true p9
                replace q9 := eq_true q9
                go_wp2
                go_roundg k1
                case measure => have := HK1.out; omega
                case rel => exact ⟨(x8_1), (x9_1), (wrap64 (x10_1 + 1)), (by first | rfl | (simp; done) | (simp [*]; done)), (by first | rfl | (simp; done) | (simp [*]; done)), H', ⟨by have := HK1.out; omega⟩, ⟨by (with_reducible repeat (first | apply Kd.R_alloc | apply Kd.R_drewN | apply Kd.R_drew)); exact HO_8.out⟩, ⟨by repeat (first | (with_reducible first | exact HB.out | apply below_alloc | apply pw_below_drewN | apply below_drew1) | exact HB.out)⟩⟩
            · rw [if_neg c8] at H
              exact absurd H (by simp)
          · rw [if_neg c7] at H
            exact absurd H (by simp)
        · rw [if_neg c6] at H
          have c6b0 : decide (x10_1 < a2) = false := decide_eq_false c6
          clear c6
          by_cases c23 : x9_1 < a2
          · rw [if_pos c23] at H
            have c23b0 : decide (x9_1 < a2) = true := decide_eq_true c23
            clear c23
            by_cases c24 : x8_1.length < 5864062014805
            · rw [if_pos c24] at H
              have LMc24 := Aside0.mk c24
              clear c24
              obtain ⟨y103, hy103⟩ : ∃ y_ : List (S41), y_ = (x8_1 ++ [(⟨x9_1, a2, a2⟩ : S41)]) := ⟨_, rfl⟩
              replace H : (some y103) = some r := by first | (rw [hy103]; with_reducible exact H) | (have H2_ := (Option.bind_some _ _).symm.trans H; rw [hy103]; with_reducible exact H2_) | (have H2_ := (Option.bind_some _ _).symm.trans H; with_reducible exact H2_) | with_reducible exact H | (rw [hy103]; exact H) | exact H
              have Ny103 := Aside0.mk hy103
              clear hy103
              obtain rfl := Option.some.inj H
              go_wp2_with (first | ((with_reducible refine gate_builtin (b := .append) (xs := #[.tmp 56, .tmp 61]) rfl ?_); at_builtin; refine Kd.R_append k41 (w0 := w) w.heap.size rfl (.tmp 56) (.tmp 61) 34 41 (.agg #[(.int .i64 0), (.int .i64 0), (.int .i64 0)]) 24 rfl Try.underlying34 info41 rfl (by decide) (by omega) u8 x8_1 (⟨x9_1, a2, a2⟩ : S41) [.int .i64 x9_1, .int .i64 a2, .int .i64 a2] (fun _ => True) (fun _ => False) rfl rfl ?aP (fun _ hk => hk.elim) ?aF ?aO ?aB ?aS ?aL ?_; (case aP => exact k41_mkM _ _ _ (⟨x9_1, a2, a2⟩ : S41)); (case aB => exact (by repeat (first | (with_reducible first | exact HB.out | apply below_alloc | apply pw_below_drewN | apply below_drew1) | exact HB.out))); (case aF => exact (fun _ _ => trivial)); (case aO => exact (by (with_reducible repeat (first | apply Kd.R_alloc | apply Kd.R_drewN | apply Kd.R_drew)); exact HO_8.out)); (case aS => exact (below_size (by repeat (first | (with_reducible first | exact HB.out | apply below_alloc | apply pw_below_drewN | apply below_drew1) | exact HB.out)))); (case aL => have := LMc24.out; omega); intro v104 w25 ho hb hg hat; rw [← Ny103.out] at ho; have n0_ := Aside0.mk (hb); have n1_ := Aside0.mk (ho); clear HB; clear HO_8; have HB := n0_; have HO105 := n1_; clear n0_ n1_; clear ho hb hg hat))
              go_ret
              exact ⟨_, by first | rfl | (simp [errW_none, errW_some] <;> rfl) | (simp [*, errW_none, errW_some] <;> rfl), by (with_reducible repeat (first | apply Kd.R_alloc | apply Kd.R_drewN | apply Kd.R_drew)); exact HO105.out, by repeat (first | (with_reducible first | exact HB.out | apply below_alloc | apply pw_below_drewN | apply below_drew1) | exact HB.out)⟩
            · rw [if_neg c24] at H
              exact absurd H (by simp)
          · rw [if_neg c23] at H
            have c23b0 : decide (x9_1 < a2) = false := decide_eq_false c23
            clear c23
            obtain rfl := Option.some.inj H
            go_wp2
            go_ret
            exact ⟨_, by first | rfl | (simp [errW_none, errW_some] <;> rfl) | (simp [*, errW_none, errW_some] <;> rfl), by (with_reducible repeat (first | apply Kd.R_alloc | apply Kd.R_drewN | apply Kd.R_drew)); exact HO_8.out, by repeat (first | (with_reducible first | exact HB.out | apply below_alloc | apply pw_below_drewN | apply below_drew1) | exact HB.out)⟩
  · replace c5 := Bool.eq_false_iff.mpr c5
    subst c5
    have H1 : (some ([] : List (S41))) = some r := by rw [if_neg (show ¬ (false = true) by decide)] at H; exact H
    clear H
    have H := H1
    clear H1
    obtain rfl := Option.some.inj H
    go_enter Try.func10, Try.ntmps10
    go_wp2_with (first | ((with_reducible refine gate_callee (f := 13) rfl ?_); refine goesL_ (some 16) rfl rfl Try.func13 (by kernel_rfl) rfl #[.int .i64 a1, .int .i64 a2, .int .i64 (a0.size : Int)] rfl (by (try simp only [List.map_toArray, List.map_cons, List.map_nil]); first | done | rfl | (simp only [List.length_drop, List.length_take]; rfl)) ?_; (with_reducible refine (letterboxref05_Within.calls a1 a2 (a0.size : Int) false _ A4.out).mono ?_); rintro e w' ⟨rfl, ⟨nd, rfl⟩⟩; refine ⟨_, rfl, ?_⟩))
    go_ret
    exact ⟨_, by first | rfl | (simp [errW_none, errW_some] <;> rfl) | (simp [*, errW_none, errW_some] <;> rfl), by first | exact Kd.R_nil _ _ _ _ _ | exact Kd.N_nil _ _ _ _ _ | exact Kd.V_nil _ _ _ _ _ | exact Kd.Q_nil _ _ _ _ _ | exact Kd.S_nil _ _ _ _ _, by repeat (first | (with_reducible first | exact HB.out | apply below_alloc | apply pw_below_drewN | apply below_drew1) | exact HB.out)⟩

/-! ### lines_Count: function 11 -/
def lines_Count.f (l0 : List Int) (a1_0 : Int) (a1_1 : Int) : Option Int := if l0.length ≤ 100000 then some (if 0 ≤ a1_0 ∧ a1_0 ≤ a1_1 ∧ a1_1 ≤ (l0.length : Int) then ((ln_from l0 a1_1.toNat a1_0.toNat).length : Int) else 0) else none
theorem lines_Count.calls (A0 : Option Addr) (c0 : Nat) (l0 : List Int) (a1_0 : Int) (a1_1 : Int) (r : Int) (w : World) (hr0 : Kd.C (Kd.int .u8) w A0 l0.length l0) (hc0 : l0.length ≤ c0) (h : lines_Count.f l0 a1_0 a1_1 = some r) :
    Calls Try.prog 11 #[.slice A0 l0.length c0, .agg #[.int .i64 a1_0, .int .i64 a1_1]] w fun e w' => e = .returned (.int .i64 r) ∧ Below w.heap.size w w' := by
  unfold lines_Count.f at h
  by_cases hl : l0.length ≤ 100000
  · rw [if_pos hl] at h
    obtain rfl := Option.some.inj h
    exact callsIn_wide.1 (ln_Count Fence.wide 7 trivial trivial trivial trivial trivial rfl (Nat.le_refl _) A0 c0 l0 a1_0 a1_1 hl hc0 w hr0)
  · rw [if_neg hl] at h
    exact absurd h (by simp)

/-! ### letterboxref05_Empty: function 15 -/
def letterboxref05_Empty.l0 : Nat → List (S41) → Int → Option (Int)
  | 0, _, _ => none
  | k + 1, x0, x3 => if x3 < (x0.length : Int) then (if 0 ≤ x3 then (if ((rd_T41 x0 x3).f0) = ((rd_T41 x0 x3).f1) then (some x3) else (letterboxref05_Empty.l0 k x0 (wrap64 (x3 + 1)))) else (none)) else (some (-1))
def letterboxref05_Empty.f (k : Nat) (l0 : List (S41)) : Option (Int) := letterboxref05_Empty.l0 k l0 0
theorem letterboxref05_Empty.mono_l : ∀ k, (∀ y0 y1, LeO (letterboxref05_Empty.l0 k y0 y1) (letterboxref05_Empty.l0 (k + 1) y0 y1))
  | 0 => fun _ _ r h => by simp [letterboxref05_Empty.l0] at h
  | k + 1 => by
    have ih0 := letterboxref05_Empty.mono_l k
    · intro y0 y1
      unfold letterboxref05_Empty.l0
      repeat' first
      | (with_reducible exact ih0 _ _)
      | (with_reducible exact LeO.refl _)
      | (with_reducible exact LeO.none _)
      | (with_reducible refine LeO.ite ?_ ?_)
      | (with_reducible refine LeO.bind ?_ (fun _ => ?_))
      | exact ih0 _ _
      | exact LeO.none _
      | refine LeO.ite ?_ ?_
      | refine LeO.bind ?_ (fun _ => ?_)
theorem letterboxref05_Empty.mono : ∀ a0 k, LeO (letterboxref05_Empty.f k a0) (letterboxref05_Empty.f (k + 1) a0) := by
  intro a0 k
  have ih0 := letterboxref05_Empty.mono_l k
  unfold letterboxref05_Empty.f
  repeat' first
      | (with_reducible exact ih0 _ _)
      | (with_reducible exact LeO.refl _)
      | (with_reducible exact LeO.none _)
      | (with_reducible refine LeO.ite ?_ ?_)
      | (with_reducible refine LeO.bind ?_ (fun _ => ?_))
      | exact ih0 _ _
      | exact LeO.none _
      | refine LeO.ite ?_ ?_
      | refine LeO.bind ?_ (fun _ => ?_)
set_option maxHeartbeats 8000000 in
set_option maxRecDepth 100000 in
theorem letterboxref05_Empty.calls (k : Nat) (A0 : Option Addr) (c0 : Nat) (l0 : List (S41)) (r : Int) (w : World) (hr0 : Kd.C k41 w A0 l0.length l0) (hc0 : l0.length ≤ c0) (h : letterboxref05_Empty.f k l0 = some r) :
    Calls Try.prog 15 #[.slice A0 l0.length c0] w fun e w' => e = .returned (.int .i64 r) ∧ Drawn0 w w' := by
  have HR0 := Aside0.mk hr0
  have HC0 := Aside0.mk hc0
  clear hr0 hc0
  have H : (letterboxref05_Empty.l0 k l0 0) = some r := h
  clear h
  have H' := Aside0.mk H
  clear H
  go_enter Try.func15, Try.ntmps15
  go_wp2
  repeat (go_quiet (fail); try go_wp2)
  go_loopg [3] k (fun kq v3 w' => ∃ (x3_1 : Int), v3 = .int .i64 x3_1 ∧ Aside0 (letterboxref05_Empty.l0 kq l0 x3_1 = some r) ∧ Aside0 (kq ≤ k) ∧ Drawn0 w w')
  case atStart => exact ⟨(0), (by first | rfl | (simp; done) | (simp [*]; done)), H', ⟨Nat.le_refl _⟩, by repeat (first | exact Drawn0.refl _ | apply Drawn0.step)⟩
  case round =>
    clear H'
    try clear c1
    obtain ⟨x3_1, rfl, HA, HK1, ⟨m1, rfl⟩⟩ := hrel
    cases gk with
    | zero => exact absurd HA.out (by simp [letterboxref05_Empty.l0])
    | succ k1 =>
      have H := HA.out
      clear HA
      simp only [letterboxref05_Empty.l0] at H
      by_cases c2 : x3_1 < (l0.length : Int)
      · rw [if_pos c2] at H
        have c2b0 : decide (x3_1 < (l0.length : Int)) = true := decide_eq_true c2
        clear c2
        by_cases c3 : 0 ≤ x3_1
        · rw [if_pos c3] at H
          have c3b0 : decide (0 ≤ x3_1) = true := decide_eq_true c3
          clear c3
          by_cases c4 : ((rd_T41 l0 x3_1).f0) = ((rd_T41 l0 x3_1).f1)
          · rw [if_pos c4] at H
            have c4b0 : (((rd_T41 l0 x3_1).f0) == ((rd_T41 l0 x3_1).f1)) = true := beq_iff_eq.mpr c4
            have c4b1 : (((rd_T41 l0 x3_1).f0) != ((rd_T41 l0 x3_1).f1)) = false := bne_eq_false_iff_eq.mpr c4
            clear c4
            obtain rfl := Option.some.inj H
            have p115 : 0 ≤ (x3_1 : Int) := of_decide_eq_true (by first | (with_reducible assumption) | assumption)
            have q115 : x3_1 < (l0.length : Int) := of_decide_eq_true (by first | (with_reducible assumption) | assumption)
            obtain ⟨ad115, e115, hx115_0, hx115_1, hx115_2⟩ := at_T41 HR0.out x3_1 p115 q115
            cases e115
            replace p115 := eq_true p115
            replace q115 := eq_true q115
            have p116 : 0 ≤ (x3_1 : Int) := of_decide_eq_true (by first | (with_reducible assumption) | assumption)
            have q116 : x3_1 < (l0.length : Int) := of_decide_eq_true (by first | (with_reducible assumption) | assumption)
            obtain ⟨ad116, e116, hx116_0, hx116_1, hx116_2⟩ := at_T41 HR0.out x3_1 p116 q116
            obtain rfl : ad115 = ad116 := (by injection e116)
            replace p116 := eq_true p116
            replace q116 := eq_true q116
            go_wp2
            repeat (go_quiet (fail); try go_wp2)
            go_ret
            exact ⟨by first | rfl | (simp; done) | (simp [*]; done), by repeat (first | exact Drawn0.refl _ | apply Drawn0.step)⟩
          · rw [if_neg c4] at H
            have c4b0 : (((rd_T41 l0 x3_1).f0) == ((rd_T41 l0 x3_1).f1)) = false := beq_eq_false_iff_ne.mpr c4
            have c4b1 : (((rd_T41 l0 x3_1).f0) != ((rd_T41 l0 x3_1).f1)) = true := bne_iff_ne.mpr c4
            have H' := Aside0.mk H
            clear H
            have p115 : 0 ≤ (x3_1 : Int) := of_decide_eq_true (by first | (with_reducible assumption) | assumption)
            have q115 : x3_1 < (l0.length : Int) := of_decide_eq_true (by first | (with_reducible assumption) | assumption)
            obtain ⟨ad115, e115, hx115_0, hx115_1, hx115_2⟩ := at_T41 HR0.out x3_1 p115 q115
            cases e115
            replace p115 := eq_true p115
            replace q115 := eq_true q115
            have p116 : 0 ≤ (x3_1 : Int) := of_decide_eq_true (by first | (with_reducible assumption) | assumption)
            have q116 : x3_1 < (l0.length : Int) := of_decide_eq_true (by first | (with_reducible assumption) | assumption)
            obtain ⟨ad116, e116, hx116_0, hx116_1, hx116_2⟩ := at_T41 HR0.out x3_1 p116 q116
            obtain rfl : ad115 = ad116 := (by injection e116)
            replace p116 := eq_true p116
            replace q116 := eq_true q116
            go_wp2
            repeat (go_quiet (fail); try go_wp2)
            go_roundg k1
            case measure => have := HK1.out; omega
            case rel => exact ⟨(wrap64 (x3_1 + 1)), (by first | rfl | (simp; done) | (simp [*]; done)), H', ⟨by have := HK1.out; omega⟩, by repeat (first | exact Drawn0.refl _ | apply Drawn0.step)⟩
        · rw [if_neg c3] at H
          exact absurd H (by simp)
      · rw [if_neg c2] at H
        have c2b0 : decide (x3_1 < (l0.length : Int)) = false := decide_eq_false c2
        clear c2
        obtain rfl := Option.some.inj H
        go_wp2
        repeat (go_quiet (fail); try go_wp2)
        go_ret
        exact ⟨by first | rfl | (simp; done) | (simp [*]; done), by repeat (first | exact Drawn0.refl _ | apply Drawn0.step)⟩

end Go.Proofs.Ytfpdamppppbkiaa.P
