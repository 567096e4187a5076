-- Written by a program of this session (wip/tools/mk.sh) for this claim: it runs the kit's print with contracts of our own. Lean checks it.
import Derived.Test.YtfpdamppppbkiaaPx0
import Derived.Test.YtfpdamppppbkiaaZEm
namespace Go.Proofs.Ytfpdamppppbkiaa.P
open Go.RowKit Go.Proofs.YtfpdamppppbkiaaW.PrintWords Go.Proofs.YtfpdamppppbkiaaW.PrintLast Go.Proofs.YtfpdamppppbkiaaW.PrintMore
attribute [-simp] Int.tmod_tmod_of_dvd
attribute [local go_sem] max2_int min2_int max_two min_two max_three min_three max_four min_four   -- for this text's walks alone
set_option linter.unusedVariables false
set_option linter.unusedSimpArgs false

/-! ### lines_Within: function 12 -/
def lines_Within.f (a0_0 : Int) (a0_1 : Int) (a1 : Int) : Option (Bool) := if a0_0 ≥ 0 then (if a0_0 ≤ a0_1 then (some (decide (a0_1 ≤ a1))) else (some false)) else (some false)
set_option maxHeartbeats 8000000 in
set_option maxRecDepth 100000 in
theorem lines_Within.calls (a0_0 : Int) (a0_1 : Int) (a1 : Int) (r : Bool) (w : World) (h : lines_Within.f a0_0 a0_1 a1 = some r) :
    Calls Try.prog 12 #[.agg #[.int .i64 a0_0, .int .i64 a0_1], .int .i64 a1] w fun e w' => e = .returned (.bool r) ∧ Below w.heap.size w w' := by
  have hu27 := Try.underlying27
  have HB := Aside0.mk (Below.refl w.heap.size w)
  have H : (if a0_0 ≥ 0 then (if a0_0 ≤ a0_1 then (some (decide (a0_1 ≤ a1))) else (some false)) else (some false)) = some r := h
  clear h
  by_cases c3 : a0_0 ≥ 0
  · rw [if_pos c3] at H
    have c3b0 : decide (0 ≤ a0_0) = true := decide_eq_true c3
    clear c3
    by_cases c4 : a0_0 ≤ a0_1
    · rw [if_pos c4] at H
      have c4b0 : decide (a0_0 ≤ a0_1) = true := decide_eq_true c4
      clear c4
      obtain rfl := Option.some.inj H
      go_enter Try.func12, Try.ntmps12
      go_wp2_with (first | ((with_reducible refine gate_dst (N := 2) rfl ?_); refine box_event ?hg (N := 2) ?hd (cs := #[.int .i64 a0_0, .int .i64 a0_1]) (t := 27) ?hr ?_; (case hd => rfl); (case hg => rfl); (case hr => first | (go_simp; done) | (go_simp; rfl)); intro gb101 hg w5 hbox hb; have n0_ := Aside0.mk (below_step (by repeat (first | (with_reducible first | exact HB.out | apply below_alloc | apply pw_below_drewN | apply below_drew1) | exact HB.out)) hb); have n1_ := Aside0.mk (hbox); have n2_ := Aside0.mk ((by rw [hg]; exact (below_size (by repeat (first | (with_reducible first | exact HB.out | apply below_alloc | apply pw_below_drewN | apply below_drew1) | exact HB.out))) : w.heap.size ≤ gb101)); have n3_ := Aside0.mk ((by rw [hg]; exact (below_size (by repeat (first | (with_reducible first | exact HB.out | apply below_alloc | apply pw_below_drewN | apply below_drew1) | exact HB.out))) : w.heap.size ≤ gb101)); clear HB; have HB := n0_; have BK101 := n1_; have GW101 := n2_; have GE101 := n3_; clear n0_ n1_ n2_ n3_; clear hb hbox hg; have hcz6_0 : w5.cell? ⟨gb101, 0, none⟩ = some (.int .i64 a0_0) := (blk_cell BK101.out 0).trans rfl; have hcz6_1 : w5.cell? ⟨gb101, 1, none⟩ = some (.int .i64 a0_1) := (blk_cell BK101.out 1).trans rfl; have hfz6_0 := blk_frozen BK101.out 0; have hfz6_1 := blk_frozen BK101.out 1))
      go_ret
      exact ⟨by first | rfl | (simp [errW_none, errW_some] <;> rfl) | (simp [*, errW_none, errW_some] <;> rfl), by repeat (first | (with_reducible first | exact HB.out | apply below_alloc | apply pw_below_drewN | apply below_drew1 | refine below_set ?_ GE101.out) | exact HB.out)⟩
    · rw [if_neg c4] at H
      have c4b0 : decide (a0_0 ≤ a0_1) = false := decide_eq_false c4
      clear c4
      obtain rfl := Option.some.inj H
      go_enter Try.func12, Try.ntmps12
      go_wp2_with (first | ((with_reducible refine gate_dst (N := 2) rfl ?_); refine box_event ?hg (N := 2) ?hd (cs := #[.int .i64 a0_0, .int .i64 a0_1]) (t := 27) ?hr ?_; (case hd => rfl); (case hg => rfl); (case hr => first | (go_simp; done) | (go_simp; rfl)); intro gb101 hg w7 hbox hb; have n0_ := Aside0.mk (below_step (by repeat (first | (with_reducible first | exact HB.out | apply below_alloc | apply pw_below_drewN | apply below_drew1) | exact HB.out)) hb); have n1_ := Aside0.mk (hbox); have n2_ := Aside0.mk ((by rw [hg]; exact (below_size (by repeat (first | (with_reducible first | exact HB.out | apply below_alloc | apply pw_below_drewN | apply below_drew1) | exact HB.out))) : w.heap.size ≤ gb101)); have n3_ := Aside0.mk ((by rw [hg]; exact (below_size (by repeat (first | (with_reducible first | exact HB.out | apply below_alloc | apply pw_below_drewN | apply below_drew1) | exact HB.out))) : w.heap.size ≤ gb101)); clear HB; have HB := n0_; have BK101 := n1_; have GW101 := n2_; have GE101 := n3_; clear n0_ n1_ n2_ n3_; clear hb hbox hg; have hcz8_0 : w7.cell? ⟨gb101, 0, none⟩ = some (.int .i64 a0_0) := (blk_cell BK101.out 0).trans rfl; have hcz8_1 : w7.cell? ⟨gb101, 1, none⟩ = some (.int .i64 a0_1) := (blk_cell BK101.out 1).trans rfl; have hfz8_0 := blk_frozen BK101.out 0; have hfz8_1 := blk_frozen BK101.out 1))
      go_ret
      exact ⟨by first | rfl | (simp [errW_none, errW_some] <;> rfl) | (simp [*, errW_none, errW_some] <;> rfl), by repeat (first | (with_reducible first | exact HB.out | apply below_alloc | apply pw_below_drewN | apply below_drew1 | refine below_set ?_ GE101.out) | exact HB.out)⟩
  · rw [if_neg c3] at H
    have c3b0 : decide (0 ≤ a0_0) = false := decide_eq_false c3
    clear c3
    obtain rfl := Option.some.inj H
    go_enter Try.func12, Try.ntmps12
    go_wp2_with (first | ((with_reducible refine gate_dst (N := 2) rfl ?_); refine box_event ?hg (N := 2) ?hd (cs := #[.int .i64 a0_0, .int .i64 a0_1]) (t := 27) ?hr ?_; (case hd => rfl); (case hg => rfl); (case hr => first | (go_simp; done) | (go_simp; rfl)); intro gb101 hg w9 hbox hb; have n0_ := Aside0.mk (below_step (by repeat (first | (with_reducible first | exact HB.out | apply below_alloc | apply pw_below_drewN | apply below_drew1) | exact HB.out)) hb); have n1_ := Aside0.mk (hbox); have n2_ := Aside0.mk ((by rw [hg]; exact (below_size (by repeat (first | (with_reducible first | exact HB.out | apply below_alloc | apply pw_below_drewN | apply below_drew1) | exact HB.out))) : w.heap.size ≤ gb101)); have n3_ := Aside0.mk ((by rw [hg]; exact (below_size (by repeat (first | (with_reducible first | exact HB.out | apply below_alloc | apply pw_below_drewN | apply below_drew1) | exact HB.out))) : w.heap.size ≤ gb101)); clear HB; have HB := n0_; have BK101 := n1_; have GW101 := n2_; have GE101 := n3_; clear n0_ n1_ n2_ n3_; clear hb hbox hg; have hcz10_0 : w9.cell? ⟨gb101, 0, none⟩ = some (.int .i64 a0_0) := (blk_cell BK101.out 0).trans rfl; have hcz10_1 : w9.cell? ⟨gb101, 1, none⟩ = some (.int .i64 a0_1) := (blk_cell BK101.out 1).trans rfl; have hfz10_0 := blk_frozen BK101.out 0; have hfz10_1 := blk_frozen BK101.out 1))
    go_ret
    exact ⟨by first | rfl | (simp [errW_none, errW_some] <;> rfl) | (simp [*, errW_none, errW_some] <;> rfl), by repeat (first | (with_reducible first | exact HB.out | apply below_alloc | apply pw_below_drewN | apply below_drew1 | refine below_set ?_ GE101.out) | exact HB.out)⟩

-- NOT PRINTED: function 20 (lines_Line_20)

-- NOT PRINTED: function 16 (lines_Line_16)

-- NOT PRINTED: function 17 (lines_all)

/-! ### lines_Of: function 8 -/
def lines_Of.f (l0 : List Int) (a1_0 : Int) (a1_1 : Int) : Option (List S29) := if l0.length ≤ 100000 then some (if 0 ≤ a1_0 ∧ a1_0 ≤ a1_1 ∧ a1_1 ≤ (l0.length : Int) then ln_from l0 a1_1.toNat a1_0.toNat else []) else none
theorem lines_Of.calls (A0 : Option Addr) (c0 : Nat) (l0 : List Int) (a1_0 : Int) (a1_1 : Int) (r1 : List S29) (w : World) (hr0 : Kd.C (Kd.int .u8) w A0 l0.length l0) (hc0 : l0.length ≤ c0) (h : lines_Of.f l0 a1_0 a1_1 = some r1) :
    Calls Try.prog 8 #[.slice A0 l0.length c0, .agg #[.int .i64 a1_0, .int .i64 a1_1]] w fun e w' => ∃ v0_, e = .returned v0_ ∧ Kd.R k29 29 w' w.heap.size (fun _ => True) v0_ r1 ∧ Below w.heap.size w w' := by
  unfold lines_Of.f at h
  by_cases hl : l0.length ≤ 100000
  · rw [if_pos hl] at h
    obtain rfl := Option.some.inj h
    exact callsIn_wide.1 (ln_Of Fence.wide 7 trivial trivial trivial trivial trivial trivial trivial rfl (Nat.le_refl _) A0 c0 l0 a1_0 a1_1 hl hc0 w hr0)
  · rw [if_neg hl] at h
    exact absurd h (by simp)

/-! ### lines_Text: function 9 -/
def lines_Text.f (l0 : List Int) (a1_0 : Int) (a1_1 : Int) (a1_2 : Int) : Option ByteArray := some (ln_txt l0 a1_0 a1_1)
theorem lines_Text.calls (A0 : Option Addr) (c0 : Nat) (l0 : List Int) (a1_0 : Int) (a1_1 : Int) (a1_2 : Int) (r : ByteArray) (w : World) (hr0 : Kd.C (Kd.int .u8) w A0 l0.length l0) (hc0 : l0.length ≤ c0) (h : lines_Text.f l0 a1_0 a1_1 a1_2 = some r) :
    Calls Try.prog 9 #[.slice A0 l0.length c0, .agg #[.int .i64 a1_0, .int .i64 a1_1, .int .i64 a1_2]] w fun e w' => e = .returned (.string r) ∧ Below w.heap.size w w' := by
  obtain rfl := Option.some.inj h
  exact ln_Text A0 c0 l0 a1_0 a1_1 a1_2 w hr0 hc0

-- NOT PRINTED: function 18 (lines_Line_18)

/-! ### lines_Empty: function 14 -/
def lines_Empty.f (l0 : List S29) : Option Int := if l0.length ≤ 100000 then some (ln_emr l0) else none
theorem lines_Empty.calls (A0 : Option Addr) (c0 : Nat) (l0 : List S29) (r : Int) (w : World) (hr0 : Kd.C k29 w A0 l0.length l0) (hc0 : l0.length ≤ c0) (h : lines_Empty.f l0 = some r) :
    Calls Try.prog 14 #[.slice A0 l0.length c0] w fun e w' => e = .returned (.int .i64 r) ∧ Below w.heap.size w w' := by
  unfold lines_Empty.f at h
  by_cases hl : l0.length ≤ 100000
  · rw [if_pos hl] at h
    obtain rfl := Option.some.inj h
    exact ln_Empty A0 c0 l0 w hr0 hl
  · rw [if_neg hl] at h
    exact absurd h (by simp)

/-! ### letterboxlaw05_awake: function 7 -/
def letterboxlaw05_awake.f : Option Bool := some true
set_option maxHeartbeats 2000000 in
theorem letterboxlaw05_awake.calls (r : Bool) (w : World) (h : letterboxlaw05_awake.f = some r) :
    Calls Try.prog 7 #[] w fun e w' => e = .returned (.bool r) ∧ Below w.heap.size w w' := by
  obtain rfl := Option.some.inj h
  clear h
  have kc := fun (w : World) (C : Array Value) (n c : Nat) => Lib.run_convert_bytes_const (P := Try.prog) w 22 5 C n c Try.underlying22 Try.underlying5
  go_enter Try.func7, Try.ntmps7
  go_wp2_with fail
  refine (lines_Of.calls (some ⟨w.heap.size, 0, none⟩) 4 [97, 13, 10, 98] 0 4 [⟨0, 1, 3⟩, ⟨3, 4, 4⟩] _ (Aids.const_C _ (by decide) (heap_alloc_new _ _)) (by decide) (by kernel_rfl)).mono ?_
  rintro e w1 ⟨v1, rfl, hR1, hb1⟩
  obtain ⟨A1, cc1, rfl⟩ := Kd.R_slice hR1
  have HR1 := Aside0.mk hR1
  have HB1 := Aside0.mk hb1
  obtain ⟨ad, e1, hx0, hx1, hx2⟩ := at_T29 (Kd.R_reads' hR1).2.2 0 (by decide) (by decide)
  cases e1
  obtain ⟨ad2, e2, hy0, hy1, hy2⟩ := at_T29 (Kd.R_reads' hR1).2.2 1 (by decide) (by decide)
  cases e2
  obtain ⟨g, rfl⟩ : ∃ g, ad = ⟨g, 0, none⟩ := by
    obtain ⟨_, inner, ho, _⟩ := hR1
    rcases ho.2 with ⟨e, _⟩ | ⟨g, cap, cur, e, _⟩
    · cases e
    · exact ⟨g, by cases e; rfl⟩
  have lb := World.block_lt_of_cell? w1 _ hx0
  have al := fun o => below_alloc (Below.refl w1.heap.size w1) o
  have k1 : w1.cell? ⟨g, 0 + 1, none⟩ = some (.int .i64 1) := hx1
  have k2 : w1.cell? ⟨g, 0 + 2, none⟩ = some (.int .i64 3) := hx2
  have m1 : w1.cell? ⟨g, 0 + 3 + 1, none⟩ = some (.int .i64 4) := hy1
  have m0a : ∀ o, (w1.alloc o).cell? ⟨g, 0 + 3, none⟩ = some (.int .i64 3) := fun o => ((al o).cell (p := ⟨g, 0 + 3, none⟩) lb).trans hy0
  have m1a : ∀ o, (w1.alloc o).cell? ⟨g, 0 + 3 + 1, none⟩ = some (.int .i64 4) := fun o => ((al o).cell (p := ⟨g, 0 + 3 + 1, none⟩) lb).trans hy1
  have m2a : ∀ o, (w1.alloc o).cell? ⟨g, 0 + 3 + 2, none⟩ = some (.int .i64 4) := fun o => ((al o).cell (p := ⟨g, 0 + 3 + 2, none⟩) lb).trans hy2
  simp only [Nat.zero_add, Nat.reduceAdd] at k1 k2 m1 m0a m1a m2a
  clear hb1 hR1 hx0 hx1 hx2 hy0 hy1 hy2
  go_wp2_with fail
  refine (lines_Text.calls (some ⟨w1.heap.size, 0, none⟩) 4 [97, 13, 10, 98] 3 4 4 ⟨#[98]⟩ _ (Aids.const_C _ (by decide) (heap_alloc_new _ _)) (by decide) (by kernel_rfl)).mono ?_
  rintro e w2 ⟨rfl, hb2⟩
  have HB2 := Aside0.mk hb2
  clear hb2
  go_wp2_with fail
  have s1 := HB1.out.size
  have s2 := HB2.out.size
  simp at s1 s2
  have bel2 : Below w.heap.size w w2 := ((((Below.refl _ _).alloc (Nat.le_refl _) _).trans (HB1.out.mono (by simp))).alloc (by omega) _).trans (HB2.out.mono (by simp; omega))
  refine (lines_Empty.calls (some ⟨g, 0, none⟩) cc1 [⟨0, 1, 3⟩, ⟨3, 4, 4⟩] (-1) _ (Kd.C_below (Kd.R_reads' HR1.out).2.2 (((below_alloc (Below.refl _ _) _)).trans (HB2.out.mono (by simp)))) ?hcap (by kernel_rfl)).mono ?_
  case hcap =>
    obtain ⟨_, inner, ho, _⟩ := HR1.out
    rcases ho.2 with ⟨e, _⟩ | ⟨q, cap, cur, e, hq⟩
    · cases e
    · cases e; exact hq.2.2.1
  rintro e w3 ⟨rfl, hb3⟩
  go_wp2_with fail
  go_ret
  exact ⟨rfl, bel2.trans (hb3.mono (by omega))⟩

end Go.Proofs.Ytfpdamppppbkiaa.P
