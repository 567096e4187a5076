-- Written by a program of this session (wip/tools/mk.sh) for this claim: it runs the kit's print with contracts of our own. Lean checks it.
import Derived.Test.YtbjbagocnnffaaaDoorPx0
import Derived.Test.YtbjbagocnnffaaaDoorWRepsOne
import Derived.Test.YtbjbagocnnffaaaDoorZStr
import Derived.Test.YtbjbagocnnffaaaDoorPx6
import Derived.Test.YtbjbagocnnffaaaDoorPx8
namespace Go.Proofs.YtbjbagocnnffaaaDoor.P
open Go.RowKit Go.Proofs.YtbjbagocnnffaaaDoorW.PrintWords Go.Proofs.YtbjbagocnnffaaaDoorW.PrintLast Go.Proofs.YtbjbagocnnffaaaDoorW.PrintMore
attribute [-simp] Int.tmod_tmod_of_dvd
attribute [local go_sem] max2_int min2_int max_two min_two max_three min_three max_four min_four   -- for this text's walks alone
set_option linter.unusedVariables false
set_option linter.unusedSimpArgs false

/-! ### letterboxlaw15_awake: function 7 -/
def letterboxlaw15_awake.f (k : Nat) : Option Bool := if 60 ≤ k then some true else none
theorem letterboxlaw15_awake.mono : ∀ k, LeO (letterboxlaw15_awake.f k) (letterboxlaw15_awake.f (k + 1)) := by
  intro k
  unfold letterboxlaw15_awake.f
  by_cases h : 60 ≤ k
  · rw [if_pos h, if_pos (by omega)]; exact LeO.refl _
  · rw [if_neg h]; exact LeO.none _
theorem aw_cell {α : Type} {d : Kd α} {e base : Nat} {w : World} {ok : Nat → Prop} {A : Option Addr} {n c : Nat} {xs : List α} (h : d.R e w base ok (.slice A n c) xs) (hp : 0 < xs.length) : ∃ g, A = some ⟨g, 0, none⟩ := by
  obtain ⟨g, cap, e, _⟩ := Kd.R_form h hp
  cases e
  exact ⟨g, rfl⟩
def aw_1 : ByteArray := ⟨#[91, 49, 46, 50, 46, 104, 101, 97, 100, 101, 114, 46, 102, 105, 101, 108, 100, 115, 32, 40, 65, 32, 98, 41, 93, 60, 48, 46, 53, 62]⟩
def aw_2 : ByteArray := ⟨#[91, 77, 73, 77, 69, 93]⟩
def aw_3 : ByteArray := ⟨#[91, 49, 46, 50, 46, 72, 69, 65, 68, 69, 82, 46, 70, 73, 69, 76, 68, 83, 32, 40, 65, 32, 98, 41, 93, 60, 48, 62]⟩
theorem aw_one : section_Parse.f 60 aw_1 = some ([1, 2], 2, [⟨#[65]⟩, ⟨#[98]⟩], true, 0, 5, 0) := by kernel_rfl
theorem aw_two : section_Parse.f 60 aw_2 = some ([], 0, [], false, 0, 0, 50) := by kernel_rfl
theorem aw_said : (aw_3.toList == [91, 49, 46, 50, 46, 72, 69, 65, 68, 69, 82, 46, 70, 73, 69, 76, 68, 83, 32, 40, 65, 32, 98, 41, 93, 60, 48, 62]) = true := by kernel_rfl
theorem aw_put : section_Put.f 60 [1, 2] 2 [⟨#[65]⟩, ⟨#[98]⟩] true 0 5 true = some aw_3 := by kernel_rfl
set_option maxHeartbeats 8000000 in
set_option maxRecDepth 100000 in
theorem letterboxlaw15_awake.calls (k : Nat) (r : Bool) (w : World) (h : letterboxlaw15_awake.f k = some r) (hL0 : sec_Words w := by first | exact hL0 | exact sec_Words.below hL0 (by repeat (first | (with_reducible first | exact HB.out | apply below_alloc | apply pw_below_drewN | apply below_drew1 | refine below_set ?_ (Aside0.out (by assumption))) | exact HB.out))) :
    Calls Tryd.prog 7 #[] w fun e w' => e = .returned (.bool r) ∧ Below w.heap.size w w' := by
  obtain rfl : r = true := by
    unfold letterboxlaw15_awake.f at h
    split at h
    · exact (Option.some.inj h).symm
    · cases h
  clear h
  have HL := Aside0.mk hL0
  clear hL0
  go_enter Tryd.func7, Tryd.ntmps7
  go_wp2_with fail
  refine (section_Parse.calls 60 aw_1 _ _ _ _ _ _ _ w aw_one HL.out).mono ?_
  rintro e w1 ⟨v0, v2, rfl, R0, R2, B1⟩
  obtain ⟨A0, c0, rfl⟩ := Kd.R_slice R0
  obtain ⟨A2, c2, rfl⟩ := Kd.R_slice R2
  have HR0 := Aside0.mk R0
  have HR2 := Aside0.mk R2
  have HB1 := Aside0.mk B1
  clear R0 R2 B1
  go_wp2_with fail
  generalize hg1 : w1.heap.size = g1
  generalize hWa : World.alloc w1 _ = Wa
  have D1 : Wa.heap[g1]? = some (.cells #[.slice A0 2 c0, .int .i64 2, .slice A2 2 c2, .bool true, .int .i64 0, .int .i64 5] 26 (0, 0)) := by subst hWa hg1; exact blk_new _ _
  have B1 : Below w.heap.size w Wa := by subst hWa; exact below_alloc HB1.out _
  have R0 : Kd.R (Kd.int .i64) 3 Wa w.heap.size (fun _ => True) (.slice A0 2 c0) [1, 2] := by subst hWa; exact Kd.R_alloc HR0.out _
  have R2 : Kd.R Kd.string 9 Wa w.heap.size (fun _ => True) (.slice A2 2 c2) [⟨#[65]⟩, ⟨#[98]⟩] := by subst hWa; exact Kd.R_alloc HR2.out _
  clear hWa hg1 HR0 HR2 HB1
  refine (section_Parse.calls 60 aw_2 _ _ _ _ _ _ _ Wa aw_two (HL.out.below B1)).mono ?_
  rintro e w2 ⟨v0', v2', rfl, Q0, Q2, B2⟩
  obtain ⟨A0', c0', rfl⟩ := Kd.R_slice Q0
  obtain ⟨A2', c2', rfl⟩ := Kd.R_slice Q2
  clear Q0 Q2
  have B3 := B1.trans (B2.mono B1.size)
  have D2 := blk_below D1 B2
  have S0 := Kd.R_below R0 B2
  have S2 := Kd.R_below R2 B2
  obtain ⟨p0, rfl⟩ := aw_cell S0 (by decide)
  obtain ⟨p2, rfl⟩ := aw_cell S2 (by decide)
  obtain ⟨_, e1, k1⟩ := Kd.at_int (Kd.R_reads' S0).2.2 1 (by decide) (by decide)
  cases e1
  obtain ⟨_, e2, k2⟩ := Kd.at_string (Kd.R_reads' S2).2.2 1 (by decide) (by decide)
  cases e2
  replace k1 : w2.cell? ⟨p0, 1, none⟩ = some (.int .i64 2) := k1
  replace k2 : w2.cell? ⟨p2, 1, none⟩ = some (.string ⟨#[98]⟩) := k2
  have lg := blk_lt D2
  have l0 : p0 < w2.heap.size := World.block_lt_of_cell? w2 _ k1
  have l2 : p2 < w2.heap.size := World.block_lt_of_cell? w2 _ k2
  have HB3 := Aside0.mk B3
  have HS0 := Aside0.mk S0
  have HS2 := Aside0.mk S2
  have z0 := blk_cell D2 0
  have z1 := blk_cell D2 1
  have z2 := blk_cell D2 2
  have z3 := blk_cell D2 3
  have z4 := blk_cell D2 4
  have z5 := blk_cell D2 5
  simp only [List.getElem?_toArray, List.getElem?_cons_zero, List.getElem?_cons_succ] at z0 z1 z2 z3 z4 z5
  clear D1 D2 B1 B2 B3 R0 R2 S0 S2
  go_wp2_with (go_at_call 14; refine (section_Put.calls 60 (some ⟨p0, 0, none⟩) c0 [1, 2] 2 (some ⟨p2, 0, none⟩) c2 [⟨#[65]⟩, ⟨#[98]⟩] true 0 5 true aw_3 _ (Kd.R_reads' (Kd.R_alloc HS0.out _)).2.2 (Kd.R_reads' HS0.out).2.1 (Kd.R_reads' (Kd.R_alloc HS2.out _)).2.2 (Kd.R_reads' HS2.out).2.1 aw_put (HL.out.below (below_alloc HB3.out _))).mono ?_; rintro e w3 ⟨rfl, B4⟩; have HB4 := Aside0.mk B4; clear B4)
  rw [aw_said]
  go_ret
  exact ⟨rfl, (below_alloc HB3.out _).trans (HB4.out.mono (below_alloc HB3.out _).size)⟩

end Go.Proofs.YtbjbagocnnffaaaDoor.P
