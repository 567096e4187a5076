-- Written by a program of this session (wip/tools/mk.sh) for this claim: it runs the kit's print with contracts of our own. Lean checks it.
import Derived.Test.YtbjbagocnnffaaaDoorPx0
import Derived.Test.YtbjbagocnnffaaaDoorWRepsOne
import Derived.Test.YtbjbagocnnffaaaDoorWTab
import Derived.Test.YtbjbagocnnffaaaDoorZStr
import Derived.Test.YtbjbagocnnffaaaDoorPx6
import Derived.Test.YtbjbagocnnffaaaDoorPx8
namespace Go.Proofs.YtbjbagocnnffaaaDoor.P
open Go.RowKit Go.Proofs.YtbjbagocnnffaaaDoorW.PrintWords Go.Proofs.YtbjbagocnnffaaaDoorW.PrintLast Go.Proofs.YtbjbagocnnffaaaDoorW.PrintMore
attribute [-simp] Int.tmod_tmod_of_dvd
attribute [local go_sem] max2_int min2_int max_two min_two max_three min_three max_four min_four   -- for this text's walks alone
set_option linter.unusedVariables false
set_option linter.unusedSimpArgs false

/-! ### letterboxlaw15_awake: function 7 -/
def letterboxlaw15_awake.f (k : Nat) : Option Bool := if 60 ≤ k then some true else none
theorem letterboxlaw15_awake.mono : ∀ k, LeO (letterboxlaw15_awake.f k) (letterboxlaw15_awake.f (k + 1)) := by
  intro k
  unfold letterboxlaw15_awake.f
  by_cases h : 60 ≤ k
  · rw [if_pos h, if_pos (by omega)]; exact LeO.refl _
  · rw [if_neg h]; exact LeO.none _
theorem aw_cell {α : Type} {d : Kd α} {e base : Nat} {w : World} {ok : Nat → Prop} {A : Option Addr} {n c : Nat} {xs : List α} (h : d.R e w base ok (.slice A n c) xs) (hp : 0 < xs.length) : ∃ g, A = some ⟨g, 0, none⟩ := by
  obtain ⟨g, cap, e, _⟩ := Kd.R_form h hp
  cases e
  exact ⟨g, rfl⟩
def aw_1 : ByteArray := ⟨#[91, 49, 46, 50, 46, 104, 101, 97, 100, 101, 114, 46, 102, 105, 101, 108, 100, 115, 32, 40, 65, 32, 98, 41, 93, 60, 48, 46, 53, 62]⟩
def aw_2 : ByteArray := ⟨#[91, 77, 73, 77, 69, 93]⟩
def aw_3 : ByteArray := ⟨#[91, 49, 46, 50, 46, 72, 69, 65, 68, 69, 82, 46, 70, 73, 69, 76, 68, 83, 32, 40, 65, 32, 98, 41, 93, 60, 48, 62]⟩
theorem aw_one : section_Parse.f 60 aw_1 = some ([1, 2], 2, [⟨#[65]⟩, ⟨#[98]⟩], true, 0, 5, 0) := by kernel_rfl
theorem aw_two : section_Parse.f 60 aw_2 = some ([], 0, [], false, 0, 0, 50) := by kernel_rfl
theorem aw_said : (aw_3.toList == [91, 49, 46, 50, 46, 72, 69, 65, 68, 69, 82, 46, 70, 73, 69, 76, 68, 83, 32, 40, 65, 32, 98, 41, 93, 60, 48, 62]) = true := by kernel_rfl
theorem aw_put : section_Put.f 60 [1, 2] 2 [⟨#[65]⟩, ⟨#[98]⟩] true 0 5 true = some aw_3 := by kernel_rfl
set_option maxHeartbeats 8000000 in
set_option maxRecDepth 100000 in
theorem letterboxlaw15_awake.calls (k : Nat) (r : Bool) (w : World) (h : letterboxlaw15_awake.f k = some r) (hL0 : sec_Words w := by first | exact hL0 | exact sec_Words.below hL0 (by repeat (first | (with_reducible first | exact HB.out | apply below_alloc | apply pw_below_drewN | apply below_drew1 | refine below_set ?_ (Aside0.out (by assumption))) | exact HB.out))) :
    Calls Tryd.prog 7 #[] w fun e w' => e = .returned (.bool r) ∧ Below w.heap.size w w' := by
  obtain rfl : r = true := by
    unfold letterboxlaw15_awake.f at h
    split at h
    · exact (Option.some.inj h).symm
    · cases h
  clear h
  have HL := Aside0.mk hL0
  clear hL0
  go_enter Tryd.func7, Tryd.ntmps7
  go_wp2_with fail
  refine (section_Parse.calls 60 aw_1 _ _ _ _ _ _ _ w aw_one HL.out).mono ?_
  rintro e w1 ⟨v0, v2, rfl, R0, R2, B1⟩
  obtain ⟨A0, c0, rfl⟩ := Kd.R_slice R0
  obtain ⟨A2, c2, rfl⟩ := Kd.R_slice R2
  have HR0 := Aside0.mk R0
  have HR2 := Aside0.mk R2
  have HB1 := Aside0.mk B1
  clear R0 R2 B1
  go_wp2_with fail
  generalize hg1 : w1.heap.size = g1
  generalize hWa : World.alloc w1 _ = Wa
  have D1 : Wa.heap[g1]? = some (.cells #[.slice A0 2 c0, .int .i64 2, .slice A2 2 c2, .bool true, .int .i64 0, .int .i64 5] 26 (0, 0)) := by subst hWa hg1; exact blk_new _ _
  have B1 : Below w.heap.size w Wa := by subst hWa; exact below_alloc HB1.out _
  have R0 : Kd.R (Kd.int .i64) 3 Wa w.heap.size (fun _ => True) (.slice A0 2 c0) [1, 2] := by subst hWa; exact Kd.R_alloc HR0.out _
  have R2 : Kd.R Kd.string 9 Wa w.heap.size (fun _ => True) (.slice A2 2 c2) [⟨#[65]⟩, ⟨#[98]⟩] := by subst hWa; exact Kd.R_alloc HR2.out _
  clear hWa hg1 HR0 HR2 HB1
  refine (section_Parse.calls 60 aw_2 _ _ _ _ _ _ _ Wa aw_two (HL.out.below B1)).mono ?_
  rintro e w2 ⟨v0', v2', rfl, Q0, Q2, B2⟩
  obtain ⟨A0', c0', rfl⟩ := Kd.R_slice Q0
  obtain ⟨A2', c2', rfl⟩ := Kd.R_slice Q2
  clear Q0 Q2
  have B3 := B1.trans (B2.mono B1.size)
  have D2 := blk_below D1 B2
  have S0 := Kd.R_below R0 B2
  have S2 := Kd.R_below R2 B2
  obtain ⟨p0, rfl⟩ := aw_cell S0 (by decide)
  obtain ⟨p2, rfl⟩ := aw_cell S2 (by decide)
  obtain ⟨_, e1, k1⟩ := Kd.at_int (Kd.R_reads' S0).2.2 1 (by decide) (by decide)
  cases e1
  obtain ⟨_, e2, k2⟩ := Kd.at_string (Kd.R_reads' S2).2.2 1 (by decide) (by decide)
  cases e2
  replace k1 : w2.cell? ⟨p0, 1, none⟩ = some (.int .i64 2) := k1
  replace k2 : w2.cell? ⟨p2, 1, none⟩ = some (.string ⟨#[98]⟩) := k2
  have lg := blk_lt D2
  have l0 : p0 < w2.heap.size := World.block_lt_of_cell? w2 _ k1
  have l2 : p2 < w2.heap.size := World.block_lt_of_cell? w2 _ k2
  have HB3 := Aside0.mk B3
  have HS0 := Aside0.mk S0
  have HS2 := Aside0.mk S2
  have z0 := blk_cell D2 0
  have z1 := blk_cell D2 1
  have z2 := blk_cell D2 2
  have z3 := blk_cell D2 3
  have z4 := blk_cell D2 4
  have z5 := blk_cell D2 5
  simp only [List.getElem?_toArray, List.getElem?_cons_zero, List.getElem?_cons_succ] at z0 z1 z2 z3 z4 z5
  clear D1 D2 B1 B2 B3 R0 R2 S0 S2
  go_wp2_with (go_at_call 14; refine (section_Put.calls 60 (some ⟨p0, 0, none⟩) c0 [1, 2] 2 (some ⟨p2, 0, none⟩) c2 [⟨#[65]⟩, ⟨#[98]⟩] true 0 5 true aw_3 _ (Kd.R_reads' (Kd.R_alloc HS0.out _)).2.2 (Kd.R_reads' HS0.out).2.1 (Kd.R_reads' (Kd.R_alloc HS2.out _)).2.2 (Kd.R_reads' HS2.out).2.1 aw_put (HL.out.below (below_alloc HB3.out _))).mono ?_; rintro e w3 ⟨rfl, B4⟩; have HB4 := Aside0.mk B4; clear B4)
  rw [aw_said]
  go_ret
  exact ⟨rfl, (below_alloc HB3.out _).trans (HB4.out.mono (below_alloc HB3.out _).size)⟩

/-! ### letterboxref01_up: function 36 -/
def letterboxref01_up.f : Nat → Int → Option (ByteArray)
 | 0, _ => none
 | k + 1, a0 => if a0 < 10 then (if 0 ≤ a0 then (if a0 ≤ (IntKind.u64.wrap (a0 + 1)) then (if (IntKind.u64.wrap (a0 + 1)) ≤ 10 then (some ((⟨#[48, 49, 50, 51, 52, 53, 54, 55, 56, 57]⟩ : ByteArray).extract (a0 : Int).toNat ((IntKind.u64.wrap (a0 + 1)) : Int).toNat)) else (none)) else (none)) else (none)) else ((letterboxref01_up.f k (IntKind.u64.wrap (Int.tdiv a0 10))).bind fun t209 => (if 0 ≤ (Int.tmod a0 10) then (if (Int.tmod a0 10) ≤ (IntKind.u64.wrap ((Int.tmod a0 10) + 1)) then (if (IntKind.u64.wrap ((Int.tmod a0 10) + 1)) ≤ 10 then (if t209.size + ((⟨#[48, 49, 50, 51, 52, 53, 54, 55, 56, 57]⟩ : ByteArray).extract ((Int.tmod a0 10) : Int).toNat ((IntKind.u64.wrap ((Int.tmod a0 10) + 1)) : Int).toNat).size ≤ 9223372036854775807 then (some (t209 ++ ((⟨#[48, 49, 50, 51, 52, 53, 54, 55, 56, 57]⟩ : ByteArray).extract ((Int.tmod a0 10) : Int).toNat ((IntKind.u64.wrap ((Int.tmod a0 10) + 1)) : Int).toNat))) else (none)) else (none)) else (none)) else (none)))
theorem letterboxref01_up.mono_l : ∀ k, (∀ y0, LeO (letterboxref01_up.f k y0) (letterboxref01_up.f (k + 1) y0))
 | 0 => fun _ r h => by simp [letterboxref01_up.f] at h
 | k + 1 => by
  have ih0 := letterboxref01_up.mono_l k
  ·intro y0
   unfold letterboxref01_up.f
   repeat' first
   | (with_reducible exact ih0 _)
   | (with_reducible exact LeO.refl _)
   | (with_reducible exact LeO.none _)
   | (with_reducible refine LeO.ite ?_ ?_)
   | (with_reducible refine LeO.bind ?_ (fun _ => ?_))
   | exact ih0 _
   | exact LeO.none _
   | refine LeO.ite ?_ ?_
   | refine LeO.bind ?_ (fun _ => ?_)
theorem letterboxref01_up.mono : ∀ a0 k, LeO (letterboxref01_up.f k a0) (letterboxref01_up.f (k + 1) a0) := by
 intro a0 k
 have ih0 := letterboxref01_up.mono_l k
 exact ih0 a0
def letterboxref01_up.T3 : Bool × List (List Nat × List Nat) := (true, [([], []), ([0], [0]), ([1], [1]), ([], []), ([3], [3]), ([], []), ([5], [5]), ([6], [6]), ([4, 7], [4, 7]), ([2, 8], [2, 8]), ([9, 2, 0, 1, 2, 3, 4, 5, 6, 7, 8, 9], [9])])
def letterboxref01_up.B3 : List Nat := [0, 1, 3, 0, 8, 0, 32, 96, 248, 511, 1023]
theorem letterboxref01_up.tab3 : rtab .any (opsOf Tryd.f36 3) = letterboxref01_up.T3 := by kernel_rfl
theorem letterboxref01_up.bits3 : waitsOk letterboxref01_up.T3.2 letterboxref01_up.B3 = true := by kernel_rfl
set_option maxHeartbeats 8000000 in
set_option maxRecDepth 100000 in
theorem letterboxref01_up.calls (k : Nat) : ∀ (a0 : Int) (r : ByteArray) (w : World) (h : letterboxref01_up.f k a0 = some r),
  Calls Tryd.prog 36 #[.int .u64 a0] w fun e w' => e = .returned (.string r) ∧ Below w.heap.size w w' := by
 induction k using Nat.strongRecOn with
 | _ k ih =>
 intro a0 r w h
 cases k with
 | zero => exact absurd h (by simp [letterboxref01_up.f])
 | succ k =>
 simp only [letterboxref01_up.f] at h
 have HB := Aside0.mk (Below.refl w.heap.size w)
 have H : (if a0 < 10 then (if 0 ≤ a0 then (if a0 ≤ (IntKind.u64.wrap (a0 + 1)) then (if (IntKind.u64.wrap (a0 + 1)) ≤ 10 then (some ((⟨#[48, 49, 50, 51, 52, 53, 54, 55, 56, 57]⟩ : ByteArray).extract (a0 : Int).toNat ((IntKind.u64.wrap (a0 + 1)) : Int).toNat)) else (none)) else (none)) else (none)) else ((letterboxref01_up.f k (IntKind.u64.wrap (Int.tdiv a0 10))).bind fun t209 => (if 0 ≤ (Int.tmod a0 10) then (if (Int.tmod a0 10) ≤ (IntKind.u64.wrap ((Int.tmod a0 10) + 1)) then (if (IntKind.u64.wrap ((Int.tmod a0 10) + 1)) ≤ 10 then (if t209.size + ((⟨#[48, 49, 50, 51, 52, 53, 54, 55, 56, 57]⟩ : ByteArray).extract ((Int.tmod a0 10) : Int).toNat ((IntKind.u64.wrap ((Int.tmod a0 10) + 1)) : Int).toNat).size ≤ 9223372036854775807 then (some (t209 ++ ((⟨#[48, 49, 50, 51, 52, 53, 54, 55, 56, 57]⟩ : ByteArray).extract ((Int.tmod a0 10) : Int).toNat ((IntKind.u64.wrap ((Int.tmod a0 10) + 1)) : Int).toNat))) else (none)) else (none)) else (none)) else (none)))) = some r := h
 clear h
 by_cases c2 : a0 < 10
 ·rw [if_pos c2] at H
  have c2b0 : decide (a0 < 10) = true := decide_eq_true c2
  clear c2
  by_cases c3 : 0 ≤ a0
  ·rw [if_pos c3] at H
   have c3b0 := eq_true c3
   have c3b1 : decide (0 ≤ a0) = true := decide_eq_true c3
   clear c3
   by_cases c4 : a0 ≤ (IntKind.u64.wrap (a0 + 1))
   ·rw [if_pos c4] at H
    have c4b0 := eq_true c4
    have c4b1 : decide (a0 ≤ (IntKind.u64.wrap (a0 + 1))) = true := decide_eq_true c4
    by_cases c5 : (IntKind.u64.wrap (a0 + 1)) ≤ 10
    ·rw [if_pos c5] at H
     have c5b0 := eq_true c5
     have c5b1 : decide ((IntKind.u64.wrap (a0 + 1)) ≤ 10) = true := decide_eq_true c5
     obtain rfl := Option.some.inj H
     go_enter Tryd.func36, Tryd.ntmps36
     go_wp2
     go_ret
     exact ⟨qw_, qb_ HB.out⟩
    ·rw [if_neg c5] at H
     exact absurd H (by simp)
   ·rw [if_neg c4] at H
    exact absurd H (by simp)
  ·rw [if_neg c3] at H
   exact absurd H (by simp)
 ·rw [if_neg c2] at H
  have c2b0 : decide (a0 < 10) = false := decide_eq_false c2
  clear c2
  replace H := Option.bind_eq_some_iff.mp H
  obtain ⟨t209, A60, H⟩ := H
  replace H : (if 0 ≤ (Int.tmod a0 10) then (if (Int.tmod a0 10) ≤ (IntKind.u64.wrap ((Int.tmod a0 10) + 1)) then (if (IntKind.u64.wrap ((Int.tmod a0 10) + 1)) ≤ 10 then (if t209.size + ((⟨#[48, 49, 50, 51, 52, 53, 54, 55, 56, 57]⟩ : ByteArray).extract ((Int.tmod a0 10) : Int).toNat ((IntKind.u64.wrap ((Int.tmod a0 10) + 1)) : Int).toNat).size ≤ 9223372036854775807 then (some (t209 ++ ((⟨#[48, 49, 50, 51, 52, 53, 54, 55, 56, 57]⟩ : ByteArray).extract ((Int.tmod a0 10) : Int).toNat ((IntKind.u64.wrap ((Int.tmod a0 10) + 1)) : Int).toNat))) else (none)) else (none)) else (none)) else (none)) = some r := H
  have A6 := Aside0.mk A60
  clear A60
  obtain ⟨ji7, hji7⟩ : ∃ j_ : Int, (Int.tmod a0 10) = j_ := ⟨_, rfl⟩
  replace H : (if 0 ≤ (ji7) then (if (ji7) ≤ (IntKind.u64.wrap ((ji7) + 1)) then (if (IntKind.u64.wrap ((ji7) + 1)) ≤ 10 then (if t209.size + ((⟨#[48, 49, 50, 51, 52, 53, 54, 55, 56, 57]⟩ : ByteArray).extract ((ji7) : Int).toNat ((IntKind.u64.wrap ((ji7) + 1)) : Int).toNat).size ≤ 9223372036854775807 then (some (t209 ++ ((⟨#[48, 49, 50, 51, 52, 53, 54, 55, 56, 57]⟩ : ByteArray).extract ((ji7) : Int).toNat ((IntKind.u64.wrap ((ji7) + 1)) : Int).toNat))) else (none)) else (none)) else (none)) else (none)) = some r := by first | (rw [hji7] at H; exact H) | (simp only [hji7] at H ⊢; exact H)
  (try rw [hji7] at A6)
  by_cases c8 : 0 ≤ (ji7)
  ·rw [if_pos c8] at H
   have c8b0 := eq_true c8
   have c8b1 : decide (0 ≤ (ji7)) = true := decide_eq_true c8
   clear c8
   by_cases c9 : (ji7) ≤ (IntKind.u64.wrap ((ji7) + 1))
   ·rw [if_pos c9] at H
    have c9b0 := eq_true c9
    have c9b1 : decide ((ji7) ≤ (IntKind.u64.wrap ((ji7) + 1))) = true := decide_eq_true c9
    by_cases c10 : (IntKind.u64.wrap ((ji7) + 1)) ≤ 10
    ·rw [if_pos c10] at H
     have c10b0 := eq_true c10
     have c10b1 : decide ((IntKind.u64.wrap ((ji7) + 1)) ≤ 10) = true := decide_eq_true c10
     by_cases c11 : t209.size + ((⟨#[48, 49, 50, 51, 52, 53, 54, 55, 56, 57]⟩ : ByteArray).extract ((ji7) : Int).toNat ((IntKind.u64.wrap ((ji7) + 1)) : Int).toNat).size ≤ 9223372036854775807
     ·rw [if_pos c11] at H
      have c11b0 := eq_true c11
      have c11b1 : decide (t209.size + ((⟨#[48, 49, 50, 51, 52, 53, 54, 55, 56, 57]⟩ : ByteArray).extract ((ji7) : Int).toNat ((IntKind.u64.wrap ((ji7) + 1)) : Int).toNat).size ≤ 9223372036854775807) = true := decide_eq_true c11
      try have c11b2 : (9223372036854775807 < t209.size + ((⟨#[48, 49, 50, 51, 52, 53, 54, 55, 56, 57]⟩ : ByteArray).extract ((ji7) : Int).toNat ((IntKind.u64.wrap ((ji7) + 1)) : Int).toNat).size) = False := eq_false (Nat.not_lt.2 c11)
      (try (have c11h := c11; simp only [ByteArray.size_append, ByteArray.size_extract, Int.toNat_natCast, Nat.sub_zero, Nat.min_self, ByteArray.extract_zero_size, show (⟨#[48, 49, 50, 51, 52, 53, 54, 55, 56, 57]⟩ : ByteArray).size = 10 from rfl] at c11h; have c11b7 := eq_false (Nat.not_lt.2 c11h); clear c11h))
      try have c11b5 : (9223372036854775807 < t209.size + (((IntKind.u64.wrap ((ji7) + 1)) : Int).toNat - ((ji7) : Int).toNat)) = False := eq_false (Nat.not_lt.2 (by have h_ := c11; simp only [ByteArray.size_append, ByteArray.size_extract, show (⟨#[48, 49, 50, 51, 52, 53, 54, 55, 56, 57]⟩ : ByteArray).size = 10 from rfl] at h_ ⊢; omega))
      obtain rfl := Option.some.inj H
      go_enter Tryd.func36, Tryd.ntmps36
      try go_wp2
      have n0_ := Aside0.mk (below_drew1 HB.out)
      clear HB
      have HB := n0_
      clear n0_
      refine start_ (n := 11) (S := fun w' => True) (ds := []) #[false, false, false, false, false, false, false, false, false, false, false] (by kernel_rfl) rfl rfl trivial (fun hHeld => ?_); refine with_tabW letterboxref01_up.tab3 letterboxref01_up.bits3 (fun HT_ HW_ => ?_)
      generalize w.drew = w12 at HB hHeld ⊢
      refine pure_ (i := 0) (N := some 9) (v := ?_) (a' := ?_) #[true, false, false, false, false, false, false, false, false, false, false] rfl rfl (any_of HT_.out (by kernel_rfl)) (fun _ _ _ h => h) (Or.inl ⟨by rfl, ?_⟩) ?_ ?_
      rotate_left
      ·intro w'
       go_simp
       with_reducible rfl
      rotate_left
      ·simp only [Act.put, List.setIfInBounds_toArray, List.set_cons_zero, List.set_cons_succ, i64_w, i32_w]
       rfl
      refine pure_ (i := 1) (N := some 10) (v := ?_) (a' := ?_) #[true, true, false, false, false, false, false, false, false, false, false] rfl rfl (any_of HT_.out (by kernel_rfl)) (fun _ _ _ h => h) (Or.inl ⟨by rfl, ?_⟩) ?_ ?_
      rotate_left
      ·intro w'
       go_simp
       with_reducible rfl
      rotate_left
      ·simp only [Act.put, List.setIfInBounds_toArray, List.set_cons_zero, List.set_cons_succ, i64_w, i32_w]
       rfl
      refine pure_ (i := 3) (N := some 12) (v := ?_) (a' := ?_) #[true, true, false, true, false, false, false, false, false, false, false] rfl rfl (any_of HT_.out (by kernel_rfl)) (fun _ _ _ h => h) (Or.inl ⟨by rfl, ?_⟩) ?_ ?_
      rotate_left
      ·intro w'
       go_simp
       with_reducible rfl
      rotate_left
      ·simp only [Act.put, List.setIfInBounds_toArray, List.set_cons_zero, List.set_cons_succ, i64_w, i32_w]
       rfl
      refine pure_ (i := 4) (N := some 13) (v := ?_) (a' := ?_) #[true, true, false, true, true, false, false, false, false, false, false] rfl rfl (any_of HT_.out (by kernel_rfl)) (fun _ _ _ h => h) (Or.inl ⟨by rfl, ?_⟩) ?_ ?_
      rotate_left
      ·intro w'
       go_simp
       with_reducible rfl
      rotate_left
      ·simp only [Act.put, List.setIfInBounds_toArray, List.set_cons_zero, List.set_cons_succ, i64_w, i32_w]
       rfl
      refine pure_ (i := 5) (N := some 14) (v := ?_) (a' := ?_) #[true, true, false, true, true, true, false, false, false, false, false] rfl rfl (any_of HT_.out (by kernel_rfl)) (fun _ _ _ h => h) (Or.inl ⟨by rfl, ?_⟩) ?_ ?_
      rotate_left
      ·intro w'
       go_simp
       with_reducible rfl
      rotate_left
      ·simp only [Act.put, List.setIfInBounds_toArray, List.set_cons_zero, List.set_cons_succ, i64_w, i32_w]
       rfl
      refine pure_ (i := 6) (N := some 15) (v := ?_) (a' := ?_) #[true, true, false, true, true, true, true, false, false, false, false] rfl rfl (any_of HT_.out (by kernel_rfl)) (fun _ _ _ h => h) (Or.inl ⟨by rfl, ?_⟩) ?_ ?_
      rotate_left
      ·intro w'
       go_simp
       with_reducible rfl
      rotate_left
      ·simp only [Act.put, List.setIfInBounds_toArray, List.set_cons_zero, List.set_cons_succ, i64_w, i32_w]
       rfl
      refine pure_ (i := 7) (N := some 16) (v := ?_) (a' := ?_) #[true, true, false, true, true, true, true, true, false, false, false] rfl rfl (any_of HT_.out (by kernel_rfl)) (fun _ _ _ h => h) (Or.inl ⟨by rfl, ?_⟩) ?_ ?_
      rotate_left
      ·intro w'
       go_simp
       with_reducible rfl
      rotate_left
      ·simp only [Act.put, List.setIfInBounds_toArray, List.set_cons_zero, List.set_cons_succ, i64_w, i32_w]
       rfl
      refine pure_ (i := 8) (N := some 17) (v := ?_) (a' := ?_) #[true, true, false, true, true, true, true, true, true, false, false] rfl rfl (any_of HT_.out (by kernel_rfl)) (fun _ _ _ h => h) (Or.inl ⟨by rfl, ?_⟩) ?_ ?_
      rotate_left
      ·intro w'
       go_simp
       with_reducible rfl
      rotate_left
      ·simp only [Act.put, List.setIfInBounds_toArray, List.set_cons_zero, List.set_cons_succ, i64_w, i32_w]
       rfl
      refine one_ (i := 2) (N := some 11) #[true, true, true, true, true, true, true, true, true, false, false] rfl rfl (one_of HT_.out (by kernel_rfl)) (by decide) (fun K hK => ?_)
      refine goes_ Tryd.func36 (by kernel_rfl) rfl #[.int .u64 (IntKind.u64.wrap (Int.tdiv a0 10))] (by rfl) rfl rfl qa_ ?_
      with_reducible refine (ih k (by omega) (IntKind.u64.wrap (Int.tdiv a0 10)) t209 _ A6.out).mono ?_
      rintro e w13 ⟨rfl, hb⟩
      refine ⟨_, rfl, ?_⟩
      have n0_ := Aside0.mk (below_step (qb_ HB.out) hb)
      clear HB
      have HB := n0_
      clear n0_
      (try clear hb)
      (try clear hb2)
      (try clear hk)
      (try clear hi)
      refine hK.out _ _ trivial (fun hHeld => ?_)
      clear hK K
      refine norm_ (a' := ?_) ?_ ?_
      rotate_left
      ·show Act.put _ (some 11) _ = _
       simp only [Act.put, List.setIfInBounds_toArray, List.set_cons_zero, List.set_cons_succ, i64_w, i32_w]
       rfl
      refine pure_ (i := 9) (N := some 18) (v := ?_) (a' := ?_) #[true, true, true, true, true, true, true, true, true, true, false] rfl rfl (any_of HT_.out (by kernel_rfl)) (fun _ _ _ h => h) (Or.inl ⟨by rfl, ?_⟩) ?_ ?_
      rotate_left
      ·intro w'
       go_simp
       with_reducible rfl
      rotate_left
      ·simp only [Act.put, List.setIfInBounds_toArray, List.set_cons_zero, List.set_cons_succ, i64_w, i32_w]
       rfl
      refine pure_ (i := 10) (N := some 2) (v := ?_) (a' := ?_) #[true, true, true, true, true, true, true, true, true, true, true] rfl rfl (any_of HT_.out (by kernel_rfl)) (fun _ _ _ h => h) (Or.inl ⟨by rfl, ?_⟩) ?_ ?_
      rotate_left
      ·intro w'
       go_simp
       with_reducible rfl
      rotate_left
      ·simp only [Act.put, List.setIfInBounds_toArray, List.set_cons_zero, List.set_cons_succ, i64_w, i32_w]
       rfl
      refine done_ (done_of HT_.out (by kernel_rfl)) ?_
      try go_wp2
      go_ret
      exact ⟨by first | rfl | (simp [errW_none, errW_some] <;> rfl) | (simp only [← hji7]; first | rfl | (simp [errW_none, errW_some] <;> rfl)) | (simp [*, errW_none, errW_some] <;> rfl), qb_ HB.out⟩
     ·rw [if_neg c11] at H
      exact absurd H (by simp)
    ·rw [if_neg c10] at H
     exact absurd H (by simp)
   ·rw [if_neg c9] at H
    exact absurd H (by simp)
  ·rw [if_neg c8] at H
   exact absurd H (by simp)

/-! ### letterboxref01_Digits: function 16 -/
def letterboxref01_Digits.f (k : Nat) (a0 : Int) : Option (ByteArray) := if a0 < 0 then ((letterboxref01_up.f k (IntKind.u64.wrap ((IntKind.u64.wrap (wrap64 (-(wrap64 (a0 + 1))))) + 1))).bind fun t210 => (if 1 + t210.size ≤ 9223372036854775807 then (some ((⟨#[45]⟩ : ByteArray) ++ t210)) else (none))) else ((letterboxref01_up.f k (IntKind.u64.wrap (a0))).bind fun t211 => (some t211))
theorem letterboxref01_Digits.mono : ∀ a0 k, LeO (letterboxref01_Digits.f k a0) (letterboxref01_Digits.f (k + 1) a0) := by
 intro a0 k
 unfold letterboxref01_Digits.f
 repeat' first
   | (with_reducible exact letterboxref01_up.mono _ _)
   | (with_reducible exact LeO.refl _)
   | (with_reducible exact LeO.none _)
   | (with_reducible refine LeO.ite ?_ ?_)
   | (with_reducible refine LeO.bind ?_ (fun _ => ?_))
   | exact letterboxref01_up.mono _ _
   | exact LeO.none _
   | refine LeO.ite ?_ ?_
   | refine LeO.bind ?_ (fun _ => ?_)
set_option maxHeartbeats 8000000 in
set_option maxRecDepth 100000 in
theorem letterboxref01_Digits.calls (k : Nat) (a0 : Int) (r : ByteArray) (w : World) (h : letterboxref01_Digits.f k a0 = some r) :
  Calls Tryd.prog 16 #[.int .i64 a0] w fun e w' => e = .returned (.string r) ∧ Below w.heap.size w w' := by
 have HB := Aside0.mk (Below.refl w.heap.size w)
 have H : (if a0 < 0 then ((letterboxref01_up.f k (IntKind.u64.wrap ((IntKind.u64.wrap (wrap64 (-(wrap64 (a0 + 1))))) + 1))).bind fun t210 => (if 1 + t210.size ≤ 9223372036854775807 then (some ((⟨#[45]⟩ : ByteArray) ++ t210)) else (none))) else ((letterboxref01_up.f k (IntKind.u64.wrap (a0))).bind fun t211 => (some t211))) = some r := h
 clear h
 by_cases c2 : a0 < 0
 ·rw [if_pos c2] at H
  have c2b0 : decide (a0 < 0) = true := decide_eq_true c2
  clear c2
  replace H := Option.bind_eq_some_iff.mp H
  obtain ⟨t210, A30, H⟩ := H
  replace H : (if 1 + t210.size ≤ 9223372036854775807 then (some ((⟨#[45]⟩ : ByteArray) ++ t210)) else (none)) = some r := H
  have A3 := Aside0.mk A30
  clear A30
  by_cases c4 : 1 + t210.size ≤ 9223372036854775807
  ·rw [if_pos c4] at H
   have c4b0 := eq_true c4
   have c4b1 : decide (1 + t210.size ≤ 9223372036854775807) = true := decide_eq_true c4
   try have c4b2 : (9223372036854775807 < 1 + t210.size) = False := eq_false (Nat.not_lt.2 c4)
   obtain rfl := Option.some.inj H
   go_enter Tryd.func16, Tryd.ntmps16
   go_wp2_with (first | ((with_reducible refine gate_callee (f := 36) rfl ?_); refine goesL_ (some 10) rfl rfl Tryd.func36 (by kernel_rfl) rfl #[.int .u64 (IntKind.u64.wrap ((IntKind.u64.wrap (wrap64 (-(wrap64 (a0 + 1))))) + 1))] rfl qa_ ?_; (with_reducible refine (letterboxref01_up.calls k (IntKind.u64.wrap ((IntKind.u64.wrap (wrap64 (-(wrap64 (a0 + 1))))) + 1)) t210 _ A3.out).mono ?_); rintro e w5 ⟨rfl, hb⟩; refine ⟨_, rfl, ?_⟩; have n0_ := Aside0.mk (below_step (qb_ HB.out) hb); clear HB; have HB := n0_; clear n0_; (try clear hb); (try clear hb2); (try clear hk); (try clear hi)))
   go_ret
   exact ⟨qw_, qb_ HB.out⟩
  ·rw [if_neg c4] at H
   exact absurd H (by simp)
 ·rw [if_neg c2] at H
  have c2b0 : decide (a0 < 0) = false := decide_eq_false c2
  clear c2
  replace H := Option.bind_eq_some_iff.mp H
  obtain ⟨t211, A60, H⟩ := H
  replace H : (some t211) = some r := H
  have A6 := Aside0.mk A60
  clear A60
  obtain rfl := Option.some.inj H
  go_enter Tryd.func16, Tryd.ntmps16
  go_wp2_with (first | ((with_reducible refine gate_callee (f := 36) rfl ?_); refine goesL_ (some 14) rfl rfl Tryd.func36 (by kernel_rfl) rfl #[.int .u64 (IntKind.u64.wrap (a0))] rfl qa_ ?_; (with_reducible refine (letterboxref01_up.calls k (IntKind.u64.wrap (a0)) t211 _ A6.out).mono ?_); rintro e w7 ⟨rfl, hb⟩; refine ⟨_, rfl, ?_⟩; have n0_ := Aside0.mk (below_step (qb_ HB.out) hb); clear HB; have HB := n0_; clear n0_; (try clear hb); (try clear hb2); (try clear hk); (try clear hi)))
  go_ret
  exact ⟨qw_, qb_ HB.out⟩

/-! ### letterboxlaw15_SectionCuts: function 6 -/
def letterboxlaw15_SectionCuts.f (k : Nat) (a0 : Int) (a1 : Int) : Option (Bool) := (letterboxlaw15_awake.f k).bind fun t212 => (if t212 = true then ((letterboxref01_Digits.f k (wrap64 (Int.tmod a0 9999999999))).bind fun t213 => (if 3 + t213.size ≤ 9223372036854775807 then (if ((⟨#[91, 93, 60]⟩ : ByteArray) ++ t213).size + 1 ≤ 9223372036854775807 then ((letterboxref01_Digits.f k (wrap64 (Int.tmod a1 9999999999))).bind fun t214 => (if (((⟨#[91, 93, 60]⟩ : ByteArray) ++ t213) ++ (⟨#[46]⟩ : ByteArray)).size + t214.size ≤ 9223372036854775807 then (if ((((⟨#[91, 93, 60]⟩ : ByteArray) ++ t213) ++ (⟨#[46]⟩ : ByteArray)) ++ t214).size + 1 ≤ 9223372036854775807 then ((section_Parse.f k (((((⟨#[91, 93, 60]⟩ : ByteArray) ++ t213) ++ (⟨#[46]⟩ : ByteArray)) ++ t214) ++ (⟨#[62]⟩ : ByteArray))).bind fun bt215 => (if (wrap64 (Int.tmod a0 9999999999)) ≤ 4294967295 then (if (wrap64 (Int.tmod a1 9999999999)) ≥ 1 then (if ((bt215.2.2.2.2.2.2 == 0) == (decide ((wrap64 (Int.tmod a1 9999999999)) ≤ 4294967295))) = true then (if ((wrap64 (Int.tmod a1 9999999999)) ≤ 4294967295) then (if bt215.2.2.2.1 = true then (if bt215.2.2.2.2.1 = (wrap64 (Int.tmod a0 9999999999)) then (if bt215.2.2.2.2.2.1 = (wrap64 (Int.tmod a1 9999999999)) then ((section_Put.f k bt215.1 bt215.2.1 bt215.2.2.1 bt215.2.2.2.1 bt215.2.2.2.2.1 bt215.2.2.2.2.2.1 false).bind fun t227 => (some (t227.toList == (((((⟨#[91, 93, 60]⟩ : ByteArray) ++ t213) ++ (⟨#[46]⟩ : ByteArray)) ++ t214) ++ (⟨#[62]⟩ : ByteArray)).toList))) else (some false)) else (some false)) else (some false)) else (some true)) else (some false)) else (if ((bt215.2.2.2.2.2.2 == 0) == false) = true then (some true) else (some false))) else (if ((bt215.2.2.2.2.2.2 == 0) == false) = true then (some true) else (some false)))) else (none)) else (none))) else (none)) else (none))) else (some false))
theorem letterboxlaw15_SectionCuts.mono : ∀ a0 a1 k, LeO (letterboxlaw15_SectionCuts.f k a0 a1) (letterboxlaw15_SectionCuts.f (k + 1) a0 a1) := by
 intro a0 a1 k
 unfold letterboxlaw15_SectionCuts.f
 repeat' first
   | (with_reducible exact letterboxlaw15_awake.mono _)
   | (with_reducible exact letterboxref01_Digits.mono _ _)
   | (with_reducible exact section_Parse.mono _ _)
   | (with_reducible exact section_Put.mono _ _ _ _ _ _ _ _)
   | (with_reducible exact LeO.refl _)
   | (with_reducible exact LeO.none _)
   | (with_reducible refine LeO.ite ?_ ?_)
   | (with_reducible refine LeO.bind ?_ (fun _ => ?_))
   | exact letterboxlaw15_awake.mono _
   | exact letterboxref01_Digits.mono _ _
   | exact section_Parse.mono _ _
   | exact section_Put.mono _ _ _ _ _ _ _ _
   | exact LeO.none _
   | refine LeO.ite ?_ ?_
   | refine LeO.bind ?_ (fun _ => ?_)
set_option maxHeartbeats 8000000 in
set_option maxRecDepth 100000 in
theorem letterboxlaw15_SectionCuts.calls (k : Nat) (a0 : Int) (a1 : Int) (r : Bool) (w : World) (h : letterboxlaw15_SectionCuts.f k a0 a1 = some r) (hL0 : sec_Words w := by first | exact hL0 | exact sec_Words.below hL0 (by repeat (first | (with_reducible first | exact HB.out | apply below_alloc | apply pw_below_drewN | apply below_drew1 | refine below_set ?_ (Aside0.out (by assumption))) | exact HB.out))) :
  Calls Tryd.prog 6 #[.int .u64 a0, .int .u64 a1] w fun e w' => e = .returned (.bool r) ∧ Below w.heap.size w w' := by
 have hu26 := Tryd.underlying26
 have HB := Aside0.mk (Below.refl w.heap.size w)
 have H : ((letterboxlaw15_awake.f k).bind fun t212 => (if t212 = true then ((letterboxref01_Digits.f k (wrap64 (Int.tmod a0 9999999999))).bind fun t213 => (if 3 + t213.size ≤ 9223372036854775807 then (if ((⟨#[91, 93, 60]⟩ : ByteArray) ++ t213).size + 1 ≤ 9223372036854775807 then ((letterboxref01_Digits.f k (wrap64 (Int.tmod a1 9999999999))).bind fun t214 => (if (((⟨#[91, 93, 60]⟩ : ByteArray) ++ t213) ++ (⟨#[46]⟩ : ByteArray)).size + t214.size ≤ 9223372036854775807 then (if ((((⟨#[91, 93, 60]⟩ : ByteArray) ++ t213) ++ (⟨#[46]⟩ : ByteArray)) ++ t214).size + 1 ≤ 9223372036854775807 then ((section_Parse.f k (((((⟨#[91, 93, 60]⟩ : ByteArray) ++ t213) ++ (⟨#[46]⟩ : ByteArray)) ++ t214) ++ (⟨#[62]⟩ : ByteArray))).bind fun bt215 => (if (wrap64 (Int.tmod a0 9999999999)) ≤ 4294967295 then (if (wrap64 (Int.tmod a1 9999999999)) ≥ 1 then (if ((bt215.2.2.2.2.2.2 == 0) == (decide ((wrap64 (Int.tmod a1 9999999999)) ≤ 4294967295))) = true then (if ((wrap64 (Int.tmod a1 9999999999)) ≤ 4294967295) then (if bt215.2.2.2.1 = true then (if bt215.2.2.2.2.1 = (wrap64 (Int.tmod a0 9999999999)) then (if bt215.2.2.2.2.2.1 = (wrap64 (Int.tmod a1 9999999999)) then ((section_Put.f k bt215.1 bt215.2.1 bt215.2.2.1 bt215.2.2.2.1 bt215.2.2.2.2.1 bt215.2.2.2.2.2.1 false).bind fun t227 => (some (t227.toList == (((((⟨#[91, 93, 60]⟩ : ByteArray) ++ t213) ++ (⟨#[46]⟩ : ByteArray)) ++ t214) ++ (⟨#[62]⟩ : ByteArray)).toList))) else (some false)) else (some false)) else (some false)) else (some true)) else (some false)) else (if ((bt215.2.2.2.2.2.2 == 0) == false) = true then (some true) else (some false))) else (if ((bt215.2.2.2.2.2.2 == 0) == false) = true then (some true) else (some false)))) else (none)) else (none))) else (none)) else (none))) else (some false))) = some r := h
 clear h
 replace H := Option.bind_eq_some_iff.mp H
 obtain ⟨t212, A30, H⟩ := H
 replace H : (if t212 = true then ((letterboxref01_Digits.f k (wrap64 (Int.tmod a0 9999999999))).bind fun t213 => (if 3 + t213.size ≤ 9223372036854775807 then (if ((⟨#[91, 93, 60]⟩ : ByteArray) ++ t213).size + 1 ≤ 9223372036854775807 then ((letterboxref01_Digits.f k (wrap64 (Int.tmod a1 9999999999))).bind fun t214 => (if (((⟨#[91, 93, 60]⟩ : ByteArray) ++ t213) ++ (⟨#[46]⟩ : ByteArray)).size + t214.size ≤ 9223372036854775807 then (if ((((⟨#[91, 93, 60]⟩ : ByteArray) ++ t213) ++ (⟨#[46]⟩ : ByteArray)) ++ t214).size + 1 ≤ 9223372036854775807 then ((section_Parse.f k (((((⟨#[91, 93, 60]⟩ : ByteArray) ++ t213) ++ (⟨#[46]⟩ : ByteArray)) ++ t214) ++ (⟨#[62]⟩ : ByteArray))).bind fun bt215 => (if (wrap64 (Int.tmod a0 9999999999)) ≤ 4294967295 then (if (wrap64 (Int.tmod a1 9999999999)) ≥ 1 then (if ((bt215.2.2.2.2.2.2 == 0) == (decide ((wrap64 (Int.tmod a1 9999999999)) ≤ 4294967295))) = true then (if ((wrap64 (Int.tmod a1 9999999999)) ≤ 4294967295) then (if bt215.2.2.2.1 = true then (if bt215.2.2.2.2.1 = (wrap64 (Int.tmod a0 9999999999)) then (if bt215.2.2.2.2.2.1 = (wrap64 (Int.tmod a1 9999999999)) then ((section_Put.f k bt215.1 bt215.2.1 bt215.2.2.1 bt215.2.2.2.1 bt215.2.2.2.2.1 bt215.2.2.2.2.2.1 false).bind fun t227 => (some (t227.toList == (((((⟨#[91, 93, 60]⟩ : ByteArray) ++ t213) ++ (⟨#[46]⟩ : ByteArray)) ++ t214) ++ (⟨#[62]⟩ : ByteArray)).toList))) else (some false)) else (some false)) else (some false)) else (some true)) else (some false)) else (if ((bt215.2.2.2.2.2.2 == 0) == false) = true then (some true) else (some false))) else (if ((bt215.2.2.2.2.2.2 == 0) == false) = true then (some true) else (some false)))) else (none)) else (none))) else (none)) else (none))) else (some false)) = some r := H
 have A3 := Aside0.mk A30
 clear A30
 by_cases c4 : t212 = true
 ·subst c4
  have H1 : ((letterboxref01_Digits.f k (wrap64 (Int.tmod a0 9999999999))).bind fun t213 => (if 3 + t213.size ≤ 9223372036854775807 then (if ((⟨#[91, 93, 60]⟩ : ByteArray) ++ t213).size + 1 ≤ 9223372036854775807 then ((letterboxref01_Digits.f k (wrap64 (Int.tmod a1 9999999999))).bind fun t214 => (if (((⟨#[91, 93, 60]⟩ : ByteArray) ++ t213) ++ (⟨#[46]⟩ : ByteArray)).size + t214.size ≤ 9223372036854775807 then (if ((((⟨#[91, 93, 60]⟩ : ByteArray) ++ t213) ++ (⟨#[46]⟩ : ByteArray)) ++ t214).size + 1 ≤ 9223372036854775807 then ((section_Parse.f k (((((⟨#[91, 93, 60]⟩ : ByteArray) ++ t213) ++ (⟨#[46]⟩ : ByteArray)) ++ t214) ++ (⟨#[62]⟩ : ByteArray))).bind fun bt215 => (if (wrap64 (Int.tmod a0 9999999999)) ≤ 4294967295 then (if (wrap64 (Int.tmod a1 9999999999)) ≥ 1 then (if ((bt215.2.2.2.2.2.2 == 0) == (decide ((wrap64 (Int.tmod a1 9999999999)) ≤ 4294967295))) = true then (if ((wrap64 (Int.tmod a1 9999999999)) ≤ 4294967295) then (if bt215.2.2.2.1 = true then (if bt215.2.2.2.2.1 = (wrap64 (Int.tmod a0 9999999999)) then (if bt215.2.2.2.2.2.1 = (wrap64 (Int.tmod a1 9999999999)) then ((section_Put.f k bt215.1 bt215.2.1 bt215.2.2.1 bt215.2.2.2.1 bt215.2.2.2.2.1 bt215.2.2.2.2.2.1 false).bind fun t227 => (some (t227.toList == (((((⟨#[91, 93, 60]⟩ : ByteArray) ++ t213) ++ (⟨#[46]⟩ : ByteArray)) ++ t214) ++ (⟨#[62]⟩ : ByteArray)).toList))) else (some false)) else (some false)) else (some false)) else (some true)) else (some false)) else (if ((bt215.2.2.2.2.2.2 == 0) == false) = true then (some true) else (some false))) else (if ((bt215.2.2.2.2.2.2 == 0) == false) = true then (some true) else (some false)))) else (none)) else (none))) else (none)) else (none))) = some r := by rw [if_pos rfl] at H; exact H
  clear H
  have H := H1
  clear H1
  replace H := Option.bind_eq_some_iff.mp H
  obtain ⟨t213, A50, H⟩ := H
  replace H : (if 3 + t213.size ≤ 9223372036854775807 then (if ((⟨#[91, 93, 60]⟩ : ByteArray) ++ t213).size + 1 ≤ 9223372036854775807 then ((letterboxref01_Digits.f k (wrap64 (Int.tmod a1 9999999999))).bind fun t214 => (if (((⟨#[91, 93, 60]⟩ : ByteArray) ++ t213) ++ (⟨#[46]⟩ : ByteArray)).size + t214.size ≤ 9223372036854775807 then (if ((((⟨#[91, 93, 60]⟩ : ByteArray) ++ t213) ++ (⟨#[46]⟩ : ByteArray)) ++ t214).size + 1 ≤ 9223372036854775807 then ((section_Parse.f k (((((⟨#[91, 93, 60]⟩ : ByteArray) ++ t213) ++ (⟨#[46]⟩ : ByteArray)) ++ t214) ++ (⟨#[62]⟩ : ByteArray))).bind fun bt215 => (if (wrap64 (Int.tmod a0 9999999999)) ≤ 4294967295 then (if (wrap64 (Int.tmod a1 9999999999)) ≥ 1 then (if ((bt215.2.2.2.2.2.2 == 0) == (decide ((wrap64 (Int.tmod a1 9999999999)) ≤ 4294967295))) = true then (if ((wrap64 (Int.tmod a1 9999999999)) ≤ 4294967295) then (if bt215.2.2.2.1 = true then (if bt215.2.2.2.2.1 = (wrap64 (Int.tmod a0 9999999999)) then (if bt215.2.2.2.2.2.1 = (wrap64 (Int.tmod a1 9999999999)) then ((section_Put.f k bt215.1 bt215.2.1 bt215.2.2.1 bt215.2.2.2.1 bt215.2.2.2.2.1 bt215.2.2.2.2.2.1 false).bind fun t227 => (some (t227.toList == (((((⟨#[91, 93, 60]⟩ : ByteArray) ++ t213) ++ (⟨#[46]⟩ : ByteArray)) ++ t214) ++ (⟨#[62]⟩ : ByteArray)).toList))) else (some false)) else (some false)) else (some false)) else (some true)) else (some false)) else (if ((bt215.2.2.2.2.2.2 == 0) == false) = true then (some true) else (some false))) else (if ((bt215.2.2.2.2.2.2 == 0) == false) = true then (some true) else (some false)))) else (none)) else (none))) else (none)) else (none)) = some r := H
  have A5 := Aside0.mk A50
  clear A50
  by_cases c6 : 3 + t213.size ≤ 9223372036854775807
  ·rw [if_pos c6] at H
   have c6b0 := eq_true c6
   have c6b1 : decide (3 + t213.size ≤ 9223372036854775807) = true := decide_eq_true c6
   try have c6b2 : (9223372036854775807 < 3 + t213.size) = False := eq_false (Nat.not_lt.2 c6)
   by_cases c7 : ((⟨#[91, 93, 60]⟩ : ByteArray) ++ t213).size + 1 ≤ 9223372036854775807
   ·rw [if_pos c7] at H
    have c7b0 := eq_true c7
    have c7b1 : decide (((⟨#[91, 93, 60]⟩ : ByteArray) ++ t213).size + 1 ≤ 9223372036854775807) = true := decide_eq_true c7
    try have c7b2 : (9223372036854775807 < ((⟨#[91, 93, 60]⟩ : ByteArray) ++ t213).size + 1) = False := eq_false (Nat.not_lt.2 c7)
    try have c7b4 : (9223372036854775807 < 3 + t213.size + 1) = False := eq_false (Nat.not_lt.2 (by have h_ := c7; simp only [ByteArray.size_append] at h_; exact h_))
    replace H := Option.bind_eq_some_iff.mp H
    obtain ⟨t214, A80, H⟩ := H
    replace H : (if (((⟨#[91, 93, 60]⟩ : ByteArray) ++ t213) ++ (⟨#[46]⟩ : ByteArray)).size + t214.size ≤ 9223372036854775807 then (if ((((⟨#[91, 93, 60]⟩ : ByteArray) ++ t213) ++ (⟨#[46]⟩ : ByteArray)) ++ t214).size + 1 ≤ 9223372036854775807 then ((section_Parse.f k (((((⟨#[91, 93, 60]⟩ : ByteArray) ++ t213) ++ (⟨#[46]⟩ : ByteArray)) ++ t214) ++ (⟨#[62]⟩ : ByteArray))).bind fun bt215 => (if (wrap64 (Int.tmod a0 9999999999)) ≤ 4294967295 then (if (wrap64 (Int.tmod a1 9999999999)) ≥ 1 then (if ((bt215.2.2.2.2.2.2 == 0) == (decide ((wrap64 (Int.tmod a1 9999999999)) ≤ 4294967295))) = true then (if ((wrap64 (Int.tmod a1 9999999999)) ≤ 4294967295) then (if bt215.2.2.2.1 = true then (if bt215.2.2.2.2.1 = (wrap64 (Int.tmod a0 9999999999)) then (if bt215.2.2.2.2.2.1 = (wrap64 (Int.tmod a1 9999999999)) then ((section_Put.f k bt215.1 bt215.2.1 bt215.2.2.1 bt215.2.2.2.1 bt215.2.2.2.2.1 bt215.2.2.2.2.2.1 false).bind fun t227 => (some (t227.toList == (((((⟨#[91, 93, 60]⟩ : ByteArray) ++ t213) ++ (⟨#[46]⟩ : ByteArray)) ++ t214) ++ (⟨#[62]⟩ : ByteArray)).toList))) else (some false)) else (some false)) else (some false)) else (some true)) else (some false)) else (if ((bt215.2.2.2.2.2.2 == 0) == false) = true then (some true) else (some false))) else (if ((bt215.2.2.2.2.2.2 == 0) == false) = true then (some true) else (some false)))) else (none)) else (none)) = some r := H
    have A8 := Aside0.mk A80
    clear A80
    by_cases c9 : (((⟨#[91, 93, 60]⟩ : ByteArray) ++ t213) ++ (⟨#[46]⟩ : ByteArray)).size + t214.size ≤ 9223372036854775807
    ·rw [if_pos c9] at H
     have c9b0 := eq_true c9
     have c9b1 : decide ((((⟨#[91, 93, 60]⟩ : ByteArray) ++ t213) ++ (⟨#[46]⟩ : ByteArray)).size + t214.size ≤ 9223372036854775807) = true := decide_eq_true c9
     try have c9b2 : (9223372036854775807 < (((⟨#[91, 93, 60]⟩ : ByteArray) ++ t213) ++ (⟨#[46]⟩ : ByteArray)).size + t214.size) = False := eq_false (Nat.not_lt.2 c9)
     try have c9b4 : (9223372036854775807 < 3 + t213.size + 1 + t214.size) = False := eq_false (Nat.not_lt.2 (by have h_ := c9; simp only [ByteArray.size_append] at h_; exact h_))
     by_cases c10 : ((((⟨#[91, 93, 60]⟩ : ByteArray) ++ t213) ++ (⟨#[46]⟩ : ByteArray)) ++ t214).size + 1 ≤ 9223372036854775807
     ·rw [if_pos c10] at H
      have c10b0 := eq_true c10
      have c10b1 : decide (((((⟨#[91, 93, 60]⟩ : ByteArray) ++ t213) ++ (⟨#[46]⟩ : ByteArray)) ++ t214).size + 1 ≤ 9223372036854775807) = true := decide_eq_true c10
      try have c10b2 : (9223372036854775807 < ((((⟨#[91, 93, 60]⟩ : ByteArray) ++ t213) ++ (⟨#[46]⟩ : ByteArray)) ++ t214).size + 1) = False := eq_false (Nat.not_lt.2 c10)
      try have c10b4 : (9223372036854775807 < 3 + t213.size + 1 + t214.size + 1) = False := eq_false (Nat.not_lt.2 (by have h_ := c10; simp only [ByteArray.size_append] at h_; exact h_))
      replace H := Option.bind_eq_some_iff.mp H
      obtain ⟨⟨t215, t218, t219, t222, t223, t224, t225⟩, A110, H⟩ := H
      replace H : (if (wrap64 (Int.tmod a0 9999999999)) ≤ 4294967295 then (if (wrap64 (Int.tmod a1 9999999999)) ≥ 1 then (if ((t225 == 0) == (decide ((wrap64 (Int.tmod a1 9999999999)) ≤ 4294967295))) = true then (if ((wrap64 (Int.tmod a1 9999999999)) ≤ 4294967295) then (if t222 = true then (if t223 = (wrap64 (Int.tmod a0 9999999999)) then (if t224 = (wrap64 (Int.tmod a1 9999999999)) then ((section_Put.f k t215 t218 t219 t222 t223 t224 false).bind fun t227 => (some (t227.toList == (((((⟨#[91, 93, 60]⟩ : ByteArray) ++ t213) ++ (⟨#[46]⟩ : ByteArray)) ++ t214) ++ (⟨#[62]⟩ : ByteArray)).toList))) else (some false)) else (some false)) else (some false)) else (some true)) else (some false)) else (if ((t225 == 0) == false) = true then (some true) else (some false))) else (if ((t225 == 0) == false) = true then (some true) else (some false))) = some r := H
      have A11 := Aside0.mk A110
      clear A110
      by_cases c12 : (wrap64 (Int.tmod a0 9999999999)) ≤ 4294967295
      ·rw [if_pos c12] at H
       have c12b0 : decide ((wrap64 (Int.tmod a0 9999999999)) ≤ 4294967295) = true := decide_eq_true c12
       clear c12
       by_cases c13 : (wrap64 (Int.tmod a1 9999999999)) ≥ 1
       ·rw [if_pos c13] at H
        have c13b0 : decide (1 ≤ (wrap64 (Int.tmod a1 9999999999))) = true := decide_eq_true c13
        clear c13
        by_cases c14 : ((t225 == 0) == (decide ((wrap64 (Int.tmod a1 9999999999)) ≤ 4294967295))) = true
        ·rw [if_pos c14] at H
         have c14b0 : ((t225 == 0) == (decide ((wrap64 (Int.tmod a1 9999999999)) ≤ 4294967295))) = true := c14
         (try (have c14b1 : decide ((t225 == 0) = (decide ((wrap64 (Int.tmod a1 9999999999)) ≤ 4294967295))) = true := by simpa using c14))
         (try (have c14b2 : ((t225 == 0) == (decide ((wrap64 (Int.tmod a1 9999999999)) ≤ 4294967295))) = true := by simpa using c14))
         clear c14
         by_cases c15 : ((wrap64 (Int.tmod a1 9999999999)) ≤ 4294967295)
         ·rw [if_pos c15] at H
          have c15b0 : decide ((wrap64 (Int.tmod a1 9999999999)) ≤ 4294967295) = true := decide_eq_true c15
          (try (have cz_ : (t225 == 0) = true := by cases h_ : (t225 == 0) with | true => rfl | false => exact absurd c14b0 (by rw [h_, c15b0]; decide)))
          (try (have cz_ : (t225 == 0) = false := by cases h_ : (t225 == 0) with | false => rfl | true => exact absurd c14b0 (by rw [h_, c15b0]; decide)))
          clear c15
          by_cases c16 : t222 = true
          ·subst c16
           have H1 : (if t223 = (wrap64 (Int.tmod a0 9999999999)) then (if t224 = (wrap64 (Int.tmod a1 9999999999)) then ((section_Put.f k t215 t218 t219 true t223 t224 false).bind fun t227 => (some (t227.toList == (((((⟨#[91, 93, 60]⟩ : ByteArray) ++ t213) ++ (⟨#[46]⟩ : ByteArray)) ++ t214) ++ (⟨#[62]⟩ : ByteArray)).toList))) else (some false)) else (some false)) = some r := by rw [if_pos rfl] at H; exact H
           clear H
           have H := H1
           clear H1
           by_cases c17 : t223 = (wrap64 (Int.tmod a0 9999999999))
           ·rw [if_pos c17] at H
            have c17b0 : (t223 == (wrap64 (Int.tmod a0 9999999999))) = true := beq_iff_eq.mpr c17
            have c17b1 : (t223 != (wrap64 (Int.tmod a0 9999999999))) = false := bne_eq_false_iff_eq.mpr c17
            clear c17
            by_cases c18 : t224 = (wrap64 (Int.tmod a1 9999999999))
            ·rw [if_pos c18] at H
             have c18b0 : (t224 == (wrap64 (Int.tmod a1 9999999999))) = true := beq_iff_eq.mpr c18
             have c18b1 : (t224 != (wrap64 (Int.tmod a1 9999999999))) = false := bne_eq_false_iff_eq.mpr c18
             clear c18
             replace H := Option.bind_eq_some_iff.mp H
             obtain ⟨t227, A190, H⟩ := H
             replace H : (some (t227.toList == (((((⟨#[91, 93, 60]⟩ : ByteArray) ++ t213) ++ (⟨#[46]⟩ : ByteArray)) ++ t214) ++ (⟨#[62]⟩ : ByteArray)).toList)) = some r := H
             have A19 := Aside0.mk A190
             clear A190
             obtain rfl := Option.some.inj H
             go_enter Tryd.func6, Tryd.ntmps6
             go_wp2_with (first | ((with_reducible refine gate_callee (f := 7) rfl ?_); refine goesL_ (some 12) rfl rfl Tryd.func7 (by kernel_rfl) rfl #[] rfl qa_ ?_; (with_reducible refine (letterboxlaw15_awake.calls k  true _ A3.out).mono ?_); rintro e w20 ⟨rfl, hb⟩; refine ⟨_, rfl, ?_⟩; have n0_ := Aside0.mk (below_step (qb_ HB.out) hb); clear HB; have HB := n0_; clear n0_; (try clear hb); (try clear hb2); (try clear hk); (try clear hi)) | ((with_reducible refine gate_callee (f := 16) rfl ?_); refine goesL_ (some 18) rfl rfl Tryd.func16 (by kernel_rfl) rfl #[.int .i64 (wrap64 (Int.tmod a0 9999999999))] rfl qa_ ?_; (with_reducible refine (letterboxref01_Digits.calls k (wrap64 (Int.tmod a0 9999999999)) t213 _ A5.out).mono ?_); rintro e w21 ⟨rfl, hb⟩; refine ⟨_, rfl, ?_⟩; have n0_ := Aside0.mk (below_step (qb_ HB.out) hb); clear HB; have HB := n0_; clear n0_; (try clear hb); (try clear hb2); (try clear hk); (try clear hi)) | ((with_reducible refine gate_callee (f := 16) rfl ?_); refine goesL_ (some 24) rfl rfl Tryd.func16 (by kernel_rfl) rfl #[.int .i64 (wrap64 (Int.tmod a1 9999999999))] rfl qa_ ?_; (with_reducible refine (letterboxref01_Digits.calls k (wrap64 (Int.tmod a1 9999999999)) t214 _ A8.out).mono ?_); rintro e w22 ⟨rfl, hb⟩; refine ⟨_, rfl, ?_⟩; have n0_ := Aside0.mk (below_step (qb_ HB.out) hb); clear HB; have HB := n0_; clear n0_; (try clear hb); (try clear hb2); (try clear hk); (try clear hi)) | ((with_reducible refine gate_callee (f := 8) rfl ?_); refine goesL_ (some 29) rfl rfl Tryd.func8 (by kernel_rfl) rfl #[.string (((((⟨#[91, 93, 60]⟩ : ByteArray) ++ t213) ++ (⟨#[46]⟩ : ByteArray)) ++ t214) ++ (⟨#[62]⟩ : ByteArray))] rfl qa_ ?_; (with_reducible refine (section_Parse.calls k (((((⟨#[91, 93, 60]⟩ : ByteArray) ++ t213) ++ (⟨#[46]⟩ : ByteArray)) ++ t214) ++ (⟨#[62]⟩ : ByteArray)) t215 t218 t219 true t223 t224 t225 _ A11.out).mono ?_); rintro e w23 ⟨v216, v220, rfl, ho0, ho1, hb⟩; refine ⟨_, rfl, ?_⟩; have n0_ := Aside0.mk (Kd.R_lower ho0 (below_size (qb_ HB.out))); have n1_ := Aside0.mk (Kd.R_lower ho1 (below_size (qb_ HB.out))); have n2_ := Aside0.mk (below_step (qb_ HB.out) hb); clear HB; have HO217 := n0_; have HO221 := n1_; have HB := n2_; clear n0_ n1_ n2_; (try clear hb); (try clear hb2); (try clear hk); (try clear hi); (try clear ho0); (try clear ho1)) | ((with_reducible refine gate_dst (N := 7) rfl ?_); refine box_event ?hg (N := 7) ?hd (cs := #[.slice none 0 0, .int .i64 0, .slice none 0 0, .bool false, .int .i64 0, .int .i64 0]) (t := 26) ?hr ?_; (case hd => rfl); (case hg => rfl); (case hr => first | (go_simp; done) | (go_simp; rfl)); intro gb226 hg w24 hbox hb; have n0_ := Aside0.mk (Kd.R_below (ql_ HO217.out) hb); have n1_ := Aside0.mk (Kd.R_below (ql_ HO221.out) hb); have n2_ := Aside0.mk (below_step (qb_ HB.out) hb); have n3_ := Aside0.mk (hbox); have n4_ := Aside0.mk ((by rw [hg]; exact (below_size (qb_ HB.out)) : w.heap.size ≤ gb226)); have n5_ := Aside0.mk ((by rw [hg]; exact (below_size (qb_ HB.out)) : w.heap.size ≤ gb226)); clear HO217; clear HO221; clear HB; have HO217 := n0_; have HO221 := n1_; have HB := n2_; have BK226 := n3_; have GW226 := n4_; have GE226 := n5_; clear n0_ n1_ n2_ n3_ n4_ n5_; clear hb hbox hg; obtain ⟨Ao25, co25, eo25⟩ := Kd.R_slice HO217.out; subst eo25; have hcz26_0 : w24.cell? ⟨gb226, 0, none⟩ = some (.slice none 0 0) := (blk_cell BK226.out 0).trans rfl; have hcz26_1 : w24.cell? ⟨gb226, 1, none⟩ = some (.int .i64 0) := (blk_cell BK226.out 1).trans rfl; have hcz26_2 : w24.cell? ⟨gb226, 2, none⟩ = some (.slice none 0 0) := (blk_cell BK226.out 2).trans rfl; have hcz26_3 : w24.cell? ⟨gb226, 3, none⟩ = some (.bool false) := (blk_cell BK226.out 3).trans rfl; have hcz26_4 : w24.cell? ⟨gb226, 4, none⟩ = some (.int .i64 0) := (blk_cell BK226.out 4).trans rfl; have hcz26_5 : w24.cell? ⟨gb226, 5, none⟩ = some (.int .i64 0) := (blk_cell BK226.out 5).trans rfl; have hfz26_0 := blk_frozen BK226.out 0; have hfz26_1 := blk_frozen BK226.out 1; have hfz26_2 := blk_frozen BK226.out 2; have hfz26_3 := blk_frozen BK226.out 3; have hfz26_4 := blk_frozen BK226.out 4; have hfz26_5 := blk_frozen BK226.out 5; obtain ⟨Ao27, co27, eo27⟩ := Kd.R_slice HO221.out; subst eo27) | (go_at_call 14; (with_reducible refine (section_Put.calls k _ _ t215 t218 _ _ t219 true t223 t224 false t227 _ ?side1 ?side2 ?side3 ?side4 A19.out).mono ?_); (case side1 => refine (Kd.R_reads' (e := 3) (base := w.heap.size) (ok := fun k_ => True) (n := t215.length) (c := co25) ?_).2.2; exact (by (with_reducible repeat (first | apply Kd.R_alloc | apply Kd.R_drewN | apply Kd.R_drew)); exact (Kd.R_mono (Kd.R_far (p := ⟨gb226, 5, none⟩) (Kd.R_far (p := ⟨gb226, 4, none⟩) (Kd.R_far (p := ⟨gb226, 3, none⟩) (Kd.R_far (p := ⟨gb226, 2, none⟩) (Kd.R_far (p := ⟨gb226, 1, none⟩) (Kd.R_far (p := ⟨gb226, 0, none⟩) (Kd.R_types HO217.out BK226.out (by decide)) (fun _ hk => hk.2) (.slice Ao25 t215.length co25)) (fun _ hk => hk.2) (.int .i64 t218)) (fun _ hk => hk.2) (.slice Ao27 t219.length co27)) (fun _ hk => hk.2) (.bool true)) (fun _ hk => hk.2) (.int .i64 t223)) (fun _ hk => hk.2) (.int .i64 t224)) (fun _ h_ => h_.1)))); (case side2 => exact (Kd.R_reads' HO217.out).2.1); (case side3 => refine (Kd.R_reads' (e := 9) (base := w.heap.size) (ok := fun k_ => True) (n := t219.length) (c := co27) ?_).2.2; exact (by (with_reducible repeat (first | apply Kd.R_alloc | apply Kd.R_drewN | apply Kd.R_drew)); exact (Kd.R_mono (Kd.R_far (p := ⟨gb226, 5, none⟩) (Kd.R_far (p := ⟨gb226, 4, none⟩) (Kd.R_far (p := ⟨gb226, 3, none⟩) (Kd.R_far (p := ⟨gb226, 2, none⟩) (Kd.R_far (p := ⟨gb226, 1, none⟩) (Kd.R_far (p := ⟨gb226, 0, none⟩) (Kd.R_types HO221.out BK226.out (by decide)) (fun _ hk => hk.2) (.slice Ao25 t215.length co25)) (fun _ hk => hk.2) (.int .i64 t218)) (fun _ hk => hk.2) (.slice Ao27 t219.length co27)) (fun _ hk => hk.2) (.bool true)) (fun _ hk => hk.2) (.int .i64 t223)) (fun _ hk => hk.2) (.int .i64 t224)) (fun _ h_ => h_.1)))); (case side4 => exact (Kd.R_reads' HO221.out).2.1); rintro e w28 ⟨rfl, hb⟩; have n0_ := Aside0.mk (Kd.R_below (by (with_reducible repeat (first | apply Kd.R_alloc | apply Kd.R_drewN | apply Kd.R_drew)); exact (Kd.R_mono (Kd.R_far (p := ⟨gb226, 5, none⟩) (Kd.R_far (p := ⟨gb226, 4, none⟩) (Kd.R_far (p := ⟨gb226, 3, none⟩) (Kd.R_far (p := ⟨gb226, 2, none⟩) (Kd.R_far (p := ⟨gb226, 1, none⟩) (Kd.R_far (p := ⟨gb226, 0, none⟩) (Kd.R_types HO217.out BK226.out (by decide)) (fun _ hk => hk.2) (.slice Ao25 t215.length co25)) (fun _ hk => hk.2) (.int .i64 t218)) (fun _ hk => hk.2) (.slice Ao27 t219.length co27)) (fun _ hk => hk.2) (.bool true)) (fun _ hk => hk.2) (.int .i64 t223)) (fun _ hk => hk.2) (.int .i64 t224)) (fun _ h_ => h_.1))) hb); have n1_ := Aside0.mk (Kd.R_below (by (with_reducible repeat (first | apply Kd.R_alloc | apply Kd.R_drewN | apply Kd.R_drew)); exact (Kd.R_mono (Kd.R_far (p := ⟨gb226, 5, none⟩) (Kd.R_far (p := ⟨gb226, 4, none⟩) (Kd.R_far (p := ⟨gb226, 3, none⟩) (Kd.R_far (p := ⟨gb226, 2, none⟩) (Kd.R_far (p := ⟨gb226, 1, none⟩) (Kd.R_far (p := ⟨gb226, 0, none⟩) (Kd.R_types HO221.out BK226.out (by decide)) (fun _ hk => hk.2) (.slice Ao25 t215.length co25)) (fun _ hk => hk.2) (.int .i64 t218)) (fun _ hk => hk.2) (.slice Ao27 t219.length co27)) (fun _ hk => hk.2) (.bool true)) (fun _ hk => hk.2) (.int .i64 t223)) (fun _ hk => hk.2) (.int .i64 t224)) (fun _ h_ => h_.1))) hb); have n2_ := Aside0.mk (blk_below (g := gb226) (o := .cells #[.slice Ao25 t215.length co25, .int .i64 t218, .slice Ao27 t219.length co27, .bool true, .int .i64 t223, .int .i64 t224] 26 (0, 0)) (qs6_ (qk_ BK226.out)) hb); have n3_ := Aside0.mk (below_step (qb_ HB.out) hb); clear HO217; clear HO221; clear BK226; clear HB; have HO217 := n0_; have HO221 := n1_; have BK226 := n2_; have HB := n3_; clear n0_ n1_ n2_ n3_; (try clear hb); (try clear hb2); (try clear hk); (try clear hi)))
             go_ret
             exact ⟨qw_, qb_ HB.out⟩
            ·rw [if_neg c18] at H
             have c18b0 : (t224 == (wrap64 (Int.tmod a1 9999999999))) = false := beq_eq_false_iff_ne.mpr c18
             have c18b1 : (t224 != (wrap64 (Int.tmod a1 9999999999))) = true := bne_iff_ne.mpr c18
             obtain rfl := Option.some.inj H
             go_enter Tryd.func6, Tryd.ntmps6
             go_wp2_with (first | ((with_reducible refine gate_callee (f := 7) rfl ?_); refine goesL_ (some 12) rfl rfl Tryd.func7 (by kernel_rfl) rfl #[] rfl qa_ ?_; (with_reducible refine (letterboxlaw15_awake.calls k  true _ A3.out).mono ?_); rintro e w29 ⟨rfl, hb⟩; refine ⟨_, rfl, ?_⟩; have n0_ := Aside0.mk (below_step (qb_ HB.out) hb); clear HB; have HB := n0_; clear n0_; (try clear hb); (try clear hb2); (try clear hk); (try clear hi)) | ((with_reducible refine gate_callee (f := 16) rfl ?_); refine goesL_ (some 18) rfl rfl Tryd.func16 (by kernel_rfl) rfl #[.int .i64 (wrap64 (Int.tmod a0 9999999999))] rfl qa_ ?_; (with_reducible refine (letterboxref01_Digits.calls k (wrap64 (Int.tmod a0 9999999999)) t213 _ A5.out).mono ?_); rintro e w30 ⟨rfl, hb⟩; refine ⟨_, rfl, ?_⟩; have n0_ := Aside0.mk (below_step (qb_ HB.out) hb); clear HB; have HB := n0_; clear n0_; (try clear hb); (try clear hb2); (try clear hk); (try clear hi)) | ((with_reducible refine gate_callee (f := 16) rfl ?_); refine goesL_ (some 24) rfl rfl Tryd.func16 (by kernel_rfl) rfl #[.int .i64 (wrap64 (Int.tmod a1 9999999999))] rfl qa_ ?_; (with_reducible refine (letterboxref01_Digits.calls k (wrap64 (Int.tmod a1 9999999999)) t214 _ A8.out).mono ?_); rintro e w31 ⟨rfl, hb⟩; refine ⟨_, rfl, ?_⟩; have n0_ := Aside0.mk (below_step (qb_ HB.out) hb); clear HB; have HB := n0_; clear n0_; (try clear hb); (try clear hb2); (try clear hk); (try clear hi)) | ((with_reducible refine gate_callee (f := 8) rfl ?_); refine goesL_ (some 29) rfl rfl Tryd.func8 (by kernel_rfl) rfl #[.string (((((⟨#[91, 93, 60]⟩ : ByteArray) ++ t213) ++ (⟨#[46]⟩ : ByteArray)) ++ t214) ++ (⟨#[62]⟩ : ByteArray))] rfl qa_ ?_; (with_reducible refine (section_Parse.calls k (((((⟨#[91, 93, 60]⟩ : ByteArray) ++ t213) ++ (⟨#[46]⟩ : ByteArray)) ++ t214) ++ (⟨#[62]⟩ : ByteArray)) t215 t218 t219 true t223 t224 t225 _ A11.out).mono ?_); rintro e w32 ⟨v216, v220, rfl, ho0, ho1, hb⟩; refine ⟨_, rfl, ?_⟩; have n0_ := Aside0.mk (Kd.R_lower ho0 (below_size (qb_ HB.out))); have n1_ := Aside0.mk (Kd.R_lower ho1 (below_size (qb_ HB.out))); have n2_ := Aside0.mk (below_step (qb_ HB.out) hb); clear HB; have HO217 := n0_; have HO221 := n1_; have HB := n2_; clear n0_ n1_ n2_; (try clear hb); (try clear hb2); (try clear hk); (try clear hi); (try clear ho0); (try clear ho1)) | ((with_reducible refine gate_dst (N := 7) rfl ?_); refine box_event ?hg (N := 7) ?hd (cs := #[.slice none 0 0, .int .i64 0, .slice none 0 0, .bool false, .int .i64 0, .int .i64 0]) (t := 26) ?hr ?_; (case hd => rfl); (case hg => rfl); (case hr => first | (go_simp; done) | (go_simp; rfl)); intro gb226 hg w33 hbox hb; have n0_ := Aside0.mk (Kd.R_below (ql_ HO217.out) hb); have n1_ := Aside0.mk (Kd.R_below (ql_ HO221.out) hb); have n2_ := Aside0.mk (below_step (qb_ HB.out) hb); have n3_ := Aside0.mk (hbox); have n4_ := Aside0.mk ((by rw [hg]; exact (below_size (qb_ HB.out)) : w.heap.size ≤ gb226)); have n5_ := Aside0.mk ((by rw [hg]; exact (below_size (qb_ HB.out)) : w.heap.size ≤ gb226)); clear HO217; clear HO221; clear HB; have HO217 := n0_; have HO221 := n1_; have HB := n2_; have BK226 := n3_; have GW226 := n4_; have GE226 := n5_; clear n0_ n1_ n2_ n3_ n4_ n5_; clear hb hbox hg; obtain ⟨Ao34, co34, eo34⟩ := Kd.R_slice HO217.out; subst eo34; have hcz35_0 : w33.cell? ⟨gb226, 0, none⟩ = some (.slice none 0 0) := (blk_cell BK226.out 0).trans rfl; have hcz35_1 : w33.cell? ⟨gb226, 1, none⟩ = some (.int .i64 0) := (blk_cell BK226.out 1).trans rfl; have hcz35_2 : w33.cell? ⟨gb226, 2, none⟩ = some (.slice none 0 0) := (blk_cell BK226.out 2).trans rfl; have hcz35_3 : w33.cell? ⟨gb226, 3, none⟩ = some (.bool false) := (blk_cell BK226.out 3).trans rfl; have hcz35_4 : w33.cell? ⟨gb226, 4, none⟩ = some (.int .i64 0) := (blk_cell BK226.out 4).trans rfl; have hcz35_5 : w33.cell? ⟨gb226, 5, none⟩ = some (.int .i64 0) := (blk_cell BK226.out 5).trans rfl; have hfz35_0 := blk_frozen BK226.out 0; have hfz35_1 := blk_frozen BK226.out 1; have hfz35_2 := blk_frozen BK226.out 2; have hfz35_3 := blk_frozen BK226.out 3; have hfz35_4 := blk_frozen BK226.out 4; have hfz35_5 := blk_frozen BK226.out 5; obtain ⟨Ao36, co36, eo36⟩ := Kd.R_slice HO221.out; subst eo36))
             go_ret
             exact ⟨qw_, qb_ HB.out⟩
           ·rw [if_neg c17] at H
            have c17b0 : (t223 == (wrap64 (Int.tmod a0 9999999999))) = false := beq_eq_false_iff_ne.mpr c17
            have c17b1 : (t223 != (wrap64 (Int.tmod a0 9999999999))) = true := bne_iff_ne.mpr c17
            obtain rfl := Option.some.inj H
            go_enter Tryd.func6, Tryd.ntmps6
            go_wp2_with (first | ((with_reducible refine gate_callee (f := 7) rfl ?_); refine goesL_ (some 12) rfl rfl Tryd.func7 (by kernel_rfl) rfl #[] rfl qa_ ?_; (with_reducible refine (letterboxlaw15_awake.calls k  true _ A3.out).mono ?_); rintro e w37 ⟨rfl, hb⟩; refine ⟨_, rfl, ?_⟩; have n0_ := Aside0.mk (below_step (qb_ HB.out) hb); clear HB; have HB := n0_; clear n0_; (try clear hb); (try clear hb2); (try clear hk); (try clear hi)) | ((with_reducible refine gate_callee (f := 16) rfl ?_); refine goesL_ (some 18) rfl rfl Tryd.func16 (by kernel_rfl) rfl #[.int .i64 (wrap64 (Int.tmod a0 9999999999))] rfl qa_ ?_; (with_reducible refine (letterboxref01_Digits.calls k (wrap64 (Int.tmod a0 9999999999)) t213 _ A5.out).mono ?_); rintro e w38 ⟨rfl, hb⟩; refine ⟨_, rfl, ?_⟩; have n0_ := Aside0.mk (below_step (qb_ HB.out) hb); clear HB; have HB := n0_; clear n0_; (try clear hb); (try clear hb2); (try clear hk); (try clear hi)) | ((with_reducible refine gate_callee (f := 16) rfl ?_); refine goesL_ (some 24) rfl rfl Tryd.func16 (by kernel_rfl) rfl #[.int .i64 (wrap64 (Int.tmod a1 9999999999))] rfl qa_ ?_; (with_reducible refine (letterboxref01_Digits.calls k (wrap64 (Int.tmod a1 9999999999)) t214 _ A8.out).mono ?_); rintro e w39 ⟨rfl, hb⟩; refine ⟨_, rfl, ?_⟩; have n0_ := Aside0.mk (below_step (qb_ HB.out) hb); clear HB; have HB := n0_; clear n0_; (try clear hb); (try clear hb2); (try clear hk); (try clear hi)) | ((with_reducible refine gate_callee (f := 8) rfl ?_); refine goesL_ (some 29) rfl rfl Tryd.func8 (by kernel_rfl) rfl #[.string (((((⟨#[91, 93, 60]⟩ : ByteArray) ++ t213) ++ (⟨#[46]⟩ : ByteArray)) ++ t214) ++ (⟨#[62]⟩ : ByteArray))] rfl qa_ ?_; (with_reducible refine (section_Parse.calls k (((((⟨#[91, 93, 60]⟩ : ByteArray) ++ t213) ++ (⟨#[46]⟩ : ByteArray)) ++ t214) ++ (⟨#[62]⟩ : ByteArray)) t215 t218 t219 true t223 t224 t225 _ A11.out).mono ?_); rintro e w40 ⟨v216, v220, rfl, ho0, ho1, hb⟩; refine ⟨_, rfl, ?_⟩; have n0_ := Aside0.mk (Kd.R_lower ho0 (below_size (qb_ HB.out))); have n1_ := Aside0.mk (Kd.R_lower ho1 (below_size (qb_ HB.out))); have n2_ := Aside0.mk (below_step (qb_ HB.out) hb); clear HB; have HO217 := n0_; have HO221 := n1_; have HB := n2_; clear n0_ n1_ n2_; (try clear hb); (try clear hb2); (try clear hk); (try clear hi); (try clear ho0); (try clear ho1)) | ((with_reducible refine gate_dst (N := 7) rfl ?_); refine box_event ?hg (N := 7) ?hd (cs := #[.slice none 0 0, .int .i64 0, .slice none 0 0, .bool false, .int .i64 0, .int .i64 0]) (t := 26) ?hr ?_; (case hd => rfl); (case hg => rfl); (case hr => first | (go_simp; done) | (go_simp; rfl)); intro gb226 hg w41 hbox hb; have n0_ := Aside0.mk (Kd.R_below (ql_ HO217.out) hb); have n1_ := Aside0.mk (Kd.R_below (ql_ HO221.out) hb); have n2_ := Aside0.mk (below_step (qb_ HB.out) hb); have n3_ := Aside0.mk (hbox); have n4_ := Aside0.mk ((by rw [hg]; exact (below_size (qb_ HB.out)) : w.heap.size ≤ gb226)); have n5_ := Aside0.mk ((by rw [hg]; exact (below_size (qb_ HB.out)) : w.heap.size ≤ gb226)); clear HO217; clear HO221; clear HB; have HO217 := n0_; have HO221 := n1_; have HB := n2_; have BK226 := n3_; have GW226 := n4_; have GE226 := n5_; clear n0_ n1_ n2_ n3_ n4_ n5_; clear hb hbox hg; obtain ⟨Ao42, co42, eo42⟩ := Kd.R_slice HO217.out; subst eo42; have hcz43_0 : w41.cell? ⟨gb226, 0, none⟩ = some (.slice none 0 0) := (blk_cell BK226.out 0).trans rfl; have hcz43_1 : w41.cell? ⟨gb226, 1, none⟩ = some (.int .i64 0) := (blk_cell BK226.out 1).trans rfl; have hcz43_2 : w41.cell? ⟨gb226, 2, none⟩ = some (.slice none 0 0) := (blk_cell BK226.out 2).trans rfl; have hcz43_3 : w41.cell? ⟨gb226, 3, none⟩ = some (.bool false) := (blk_cell BK226.out 3).trans rfl; have hcz43_4 : w41.cell? ⟨gb226, 4, none⟩ = some (.int .i64 0) := (blk_cell BK226.out 4).trans rfl; have hcz43_5 : w41.cell? ⟨gb226, 5, none⟩ = some (.int .i64 0) := (blk_cell BK226.out 5).trans rfl; have hfz43_0 := blk_frozen BK226.out 0; have hfz43_1 := blk_frozen BK226.out 1; have hfz43_2 := blk_frozen BK226.out 2; have hfz43_3 := blk_frozen BK226.out 3; have hfz43_4 := blk_frozen BK226.out 4; have hfz43_5 := blk_frozen BK226.out 5; obtain ⟨Ao44, co44, eo44⟩ := Kd.R_slice HO221.out; subst eo44))
            go_ret
            exact ⟨qw_, qb_ HB.out⟩
          ·replace c16 := Bool.eq_false_iff.mpr c16
           subst c16
           have H1 : (some false) = some r := by rw [if_neg (show ¬ (false = true) by decide)] at H; exact H
           clear H
           have H := H1
           clear H1
           obtain rfl := Option.some.inj H
           go_enter Tryd.func6, Tryd.ntmps6
           go_wp2_with (first | ((with_reducible refine gate_callee (f := 7) rfl ?_); refine goesL_ (some 12) rfl rfl Tryd.func7 (by kernel_rfl) rfl #[] rfl qa_ ?_; (with_reducible refine (letterboxlaw15_awake.calls k  true _ A3.out).mono ?_); rintro e w45 ⟨rfl, hb⟩; refine ⟨_, rfl, ?_⟩; have n0_ := Aside0.mk (below_step (qb_ HB.out) hb); clear HB; have HB := n0_; clear n0_; (try clear hb); (try clear hb2); (try clear hk); (try clear hi)) | ((with_reducible refine gate_callee (f := 16) rfl ?_); refine goesL_ (some 18) rfl rfl Tryd.func16 (by kernel_rfl) rfl #[.int .i64 (wrap64 (Int.tmod a0 9999999999))] rfl qa_ ?_; (with_reducible refine (letterboxref01_Digits.calls k (wrap64 (Int.tmod a0 9999999999)) t213 _ A5.out).mono ?_); rintro e w46 ⟨rfl, hb⟩; refine ⟨_, rfl, ?_⟩; have n0_ := Aside0.mk (below_step (qb_ HB.out) hb); clear HB; have HB := n0_; clear n0_; (try clear hb); (try clear hb2); (try clear hk); (try clear hi)) | ((with_reducible refine gate_callee (f := 16) rfl ?_); refine goesL_ (some 24) rfl rfl Tryd.func16 (by kernel_rfl) rfl #[.int .i64 (wrap64 (Int.tmod a1 9999999999))] rfl qa_ ?_; (with_reducible refine (letterboxref01_Digits.calls k (wrap64 (Int.tmod a1 9999999999)) t214 _ A8.out).mono ?_); rintro e w47 ⟨rfl, hb⟩; refine ⟨_, rfl, ?_⟩; have n0_ := Aside0.mk (below_step (qb_ HB.out) hb); clear HB; have HB := n0_; clear n0_; (try clear hb); (try clear hb2); (try clear hk); (try clear hi)) | ((with_reducible refine gate_callee (f := 8) rfl ?_); refine goesL_ (some 29) rfl rfl Tryd.func8 (by kernel_rfl) rfl #[.string (((((⟨#[91, 93, 60]⟩ : ByteArray) ++ t213) ++ (⟨#[46]⟩ : ByteArray)) ++ t214) ++ (⟨#[62]⟩ : ByteArray))] rfl qa_ ?_; (with_reducible refine (section_Parse.calls k (((((⟨#[91, 93, 60]⟩ : ByteArray) ++ t213) ++ (⟨#[46]⟩ : ByteArray)) ++ t214) ++ (⟨#[62]⟩ : ByteArray)) t215 t218 t219 false t223 t224 t225 _ A11.out).mono ?_); rintro e w48 ⟨v216, v220, rfl, ho0, ho1, hb⟩; refine ⟨_, rfl, ?_⟩; have n0_ := Aside0.mk (Kd.R_lower ho0 (below_size (qb_ HB.out))); have n1_ := Aside0.mk (Kd.R_lower ho1 (below_size (qb_ HB.out))); have n2_ := Aside0.mk (below_step (qb_ HB.out) hb); clear HB; have HO217 := n0_; have HO221 := n1_; have HB := n2_; clear n0_ n1_ n2_; (try clear hb); (try clear hb2); (try clear hk); (try clear hi); (try clear ho0); (try clear ho1)) | ((with_reducible refine gate_dst (N := 7) rfl ?_); refine box_event ?hg (N := 7) ?hd (cs := #[.slice none 0 0, .int .i64 0, .slice none 0 0, .bool false, .int .i64 0, .int .i64 0]) (t := 26) ?hr ?_; (case hd => rfl); (case hg => rfl); (case hr => first | (go_simp; done) | (go_simp; rfl)); intro gb226 hg w49 hbox hb; have n0_ := Aside0.mk (Kd.R_below (ql_ HO217.out) hb); have n1_ := Aside0.mk (Kd.R_below (ql_ HO221.out) hb); have n2_ := Aside0.mk (below_step (qb_ HB.out) hb); have n3_ := Aside0.mk (hbox); have n4_ := Aside0.mk ((by rw [hg]; exact (below_size (qb_ HB.out)) : w.heap.size ≤ gb226)); have n5_ := Aside0.mk ((by rw [hg]; exact (below_size (qb_ HB.out)) : w.heap.size ≤ gb226)); clear HO217; clear HO221; clear HB; have HO217 := n0_; have HO221 := n1_; have HB := n2_; have BK226 := n3_; have GW226 := n4_; have GE226 := n5_; clear n0_ n1_ n2_ n3_ n4_ n5_; clear hb hbox hg; obtain ⟨Ao50, co50, eo50⟩ := Kd.R_slice HO217.out; subst eo50; have hcz51_0 : w49.cell? ⟨gb226, 0, none⟩ = some (.slice none 0 0) := (blk_cell BK226.out 0).trans rfl; have hcz51_1 : w49.cell? ⟨gb226, 1, none⟩ = some (.int .i64 0) := (blk_cell BK226.out 1).trans rfl; have hcz51_2 : w49.cell? ⟨gb226, 2, none⟩ = some (.slice none 0 0) := (blk_cell BK226.out 2).trans rfl; have hcz51_3 : w49.cell? ⟨gb226, 3, none⟩ = some (.bool false) := (blk_cell BK226.out 3).trans rfl; have hcz51_4 : w49.cell? ⟨gb226, 4, none⟩ = some (.int .i64 0) := (blk_cell BK226.out 4).trans rfl; have hcz51_5 : w49.cell? ⟨gb226, 5, none⟩ = some (.int .i64 0) := (blk_cell BK226.out 5).trans rfl; have hfz51_0 := blk_frozen BK226.out 0; have hfz51_1 := blk_frozen BK226.out 1; have hfz51_2 := blk_frozen BK226.out 2; have hfz51_3 := blk_frozen BK226.out 3; have hfz51_4 := blk_frozen BK226.out 4; have hfz51_5 := blk_frozen BK226.out 5; obtain ⟨Ao52, co52, eo52⟩ := Kd.R_slice HO221.out; subst eo52))
           go_ret
           exact ⟨qw_, qb_ HB.out⟩
         ·rw [if_neg c15] at H
          have c15b0 : decide ((wrap64 (Int.tmod a1 9999999999)) ≤ 4294967295) = false := decide_eq_false c15
          (try (have cz_ : (t225 == 0) = true := by cases h_ : (t225 == 0) with | true => rfl | false => exact absurd c14b0 (by rw [h_, c15b0]; decide)))
          (try (have cz_ : (t225 == 0) = false := by cases h_ : (t225 == 0) with | false => rfl | true => exact absurd c14b0 (by rw [h_, c15b0]; decide)))
          clear c15
          obtain rfl := Option.some.inj H
          go_enter Tryd.func6, Tryd.ntmps6
          go_wp2_with (first | ((with_reducible refine gate_callee (f := 7) rfl ?_); refine goesL_ (some 12) rfl rfl Tryd.func7 (by kernel_rfl) rfl #[] rfl qa_ ?_; (with_reducible refine (letterboxlaw15_awake.calls k  true _ A3.out).mono ?_); rintro e w53 ⟨rfl, hb⟩; refine ⟨_, rfl, ?_⟩; have n0_ := Aside0.mk (below_step (qb_ HB.out) hb); clear HB; have HB := n0_; clear n0_; (try clear hb); (try clear hb2); (try clear hk); (try clear hi)) | ((with_reducible refine gate_callee (f := 16) rfl ?_); refine goesL_ (some 18) rfl rfl Tryd.func16 (by kernel_rfl) rfl #[.int .i64 (wrap64 (Int.tmod a0 9999999999))] rfl qa_ ?_; (with_reducible refine (letterboxref01_Digits.calls k (wrap64 (Int.tmod a0 9999999999)) t213 _ A5.out).mono ?_); rintro e w54 ⟨rfl, hb⟩; refine ⟨_, rfl, ?_⟩; have n0_ := Aside0.mk (below_step (qb_ HB.out) hb); clear HB; have HB := n0_; clear n0_; (try clear hb); (try clear hb2); (try clear hk); (try clear hi)) | ((with_reducible refine gate_callee (f := 16) rfl ?_); refine goesL_ (some 24) rfl rfl Tryd.func16 (by kernel_rfl) rfl #[.int .i64 (wrap64 (Int.tmod a1 9999999999))] rfl qa_ ?_; (with_reducible refine (letterboxref01_Digits.calls k (wrap64 (Int.tmod a1 9999999999)) t214 _ A8.out).mono ?_); rintro e w55 ⟨rfl, hb⟩; refine ⟨_, rfl, ?_⟩; have n0_ := Aside0.mk (below_step (qb_ HB.out) hb); clear HB; have HB := n0_; clear n0_; (try clear hb); (try clear hb2); (try clear hk); (try clear hi)) | ((with_reducible refine gate_callee (f := 8) rfl ?_); refine goesL_ (some 29) rfl rfl Tryd.func8 (by kernel_rfl) rfl #[.string (((((⟨#[91, 93, 60]⟩ : ByteArray) ++ t213) ++ (⟨#[46]⟩ : ByteArray)) ++ t214) ++ (⟨#[62]⟩ : ByteArray))] rfl qa_ ?_; (with_reducible refine (section_Parse.calls k (((((⟨#[91, 93, 60]⟩ : ByteArray) ++ t213) ++ (⟨#[46]⟩ : ByteArray)) ++ t214) ++ (⟨#[62]⟩ : ByteArray)) t215 t218 t219 t222 t223 t224 t225 _ A11.out).mono ?_); rintro e w56 ⟨v216, v220, rfl, ho0, ho1, hb⟩; refine ⟨_, rfl, ?_⟩; have n0_ := Aside0.mk (Kd.R_lower ho0 (below_size (qb_ HB.out))); have n1_ := Aside0.mk (Kd.R_lower ho1 (below_size (qb_ HB.out))); have n2_ := Aside0.mk (below_step (qb_ HB.out) hb); clear HB; have HO217 := n0_; have HO221 := n1_; have HB := n2_; clear n0_ n1_ n2_; (try clear hb); (try clear hb2); (try clear hk); (try clear hi); (try clear ho0); (try clear ho1)) | ((with_reducible refine gate_dst (N := 7) rfl ?_); refine box_event ?hg (N := 7) ?hd (cs := #[.slice none 0 0, .int .i64 0, .slice none 0 0, .bool false, .int .i64 0, .int .i64 0]) (t := 26) ?hr ?_; (case hd => rfl); (case hg => rfl); (case hr => first | (go_simp; done) | (go_simp; rfl)); intro gb226 hg w57 hbox hb; have n0_ := Aside0.mk (Kd.R_below (ql_ HO217.out) hb); have n1_ := Aside0.mk (Kd.R_below (ql_ HO221.out) hb); have n2_ := Aside0.mk (below_step (qb_ HB.out) hb); have n3_ := Aside0.mk (hbox); have n4_ := Aside0.mk ((by rw [hg]; exact (below_size (qb_ HB.out)) : w.heap.size ≤ gb226)); have n5_ := Aside0.mk ((by rw [hg]; exact (below_size (qb_ HB.out)) : w.heap.size ≤ gb226)); clear HO217; clear HO221; clear HB; have HO217 := n0_; have HO221 := n1_; have HB := n2_; have BK226 := n3_; have GW226 := n4_; have GE226 := n5_; clear n0_ n1_ n2_ n3_ n4_ n5_; clear hb hbox hg; obtain ⟨Ao58, co58, eo58⟩ := Kd.R_slice HO217.out; subst eo58; have hcz59_0 : w57.cell? ⟨gb226, 0, none⟩ = some (.slice none 0 0) := (blk_cell BK226.out 0).trans rfl; have hcz59_1 : w57.cell? ⟨gb226, 1, none⟩ = some (.int .i64 0) := (blk_cell BK226.out 1).trans rfl; have hcz59_2 : w57.cell? ⟨gb226, 2, none⟩ = some (.slice none 0 0) := (blk_cell BK226.out 2).trans rfl; have hcz59_3 : w57.cell? ⟨gb226, 3, none⟩ = some (.bool false) := (blk_cell BK226.out 3).trans rfl; have hcz59_4 : w57.cell? ⟨gb226, 4, none⟩ = some (.int .i64 0) := (blk_cell BK226.out 4).trans rfl; have hcz59_5 : w57.cell? ⟨gb226, 5, none⟩ = some (.int .i64 0) := (blk_cell BK226.out 5).trans rfl; have hfz59_0 := blk_frozen BK226.out 0; have hfz59_1 := blk_frozen BK226.out 1; have hfz59_2 := blk_frozen BK226.out 2; have hfz59_3 := blk_frozen BK226.out 3; have hfz59_4 := blk_frozen BK226.out 4; have hfz59_5 := blk_frozen BK226.out 5; obtain ⟨Ao60, co60, eo60⟩ := Kd.R_slice HO221.out; subst eo60))
          go_ret
          exact ⟨qw_, qb_ HB.out⟩
        ·rw [if_neg c14] at H
         have c14b0 : ((t225 == 0) == (decide ((wrap64 (Int.tmod a1 9999999999)) ≤ 4294967295))) = false := by simpa using c14
         (try (have c14b1 : decide ((t225 == 0) = (decide ((wrap64 (Int.tmod a1 9999999999)) ≤ 4294967295))) = false := by simpa using c14))
         (try (have c14b2 : ((t225 == 0) == (decide ((wrap64 (Int.tmod a1 9999999999)) ≤ 4294967295))) = false := by simpa using c14))
         (try (have c14b3 : ¬ ((t225 == 0) = (decide ((wrap64 (Int.tmod a1 9999999999)) ≤ 4294967295))) := by simpa using c14))
         clear c14
         obtain rfl := Option.some.inj H
         go_enter Tryd.func6, Tryd.ntmps6
         go_wp2_with (first | ((with_reducible refine gate_callee (f := 7) rfl ?_); refine goesL_ (some 12) rfl rfl Tryd.func7 (by kernel_rfl) rfl #[] rfl qa_ ?_; (with_reducible refine (letterboxlaw15_awake.calls k  true _ A3.out).mono ?_); rintro e w61 ⟨rfl, hb⟩; refine ⟨_, rfl, ?_⟩; have n0_ := Aside0.mk (below_step (qb_ HB.out) hb); clear HB; have HB := n0_; clear n0_; (try clear hb); (try clear hb2); (try clear hk); (try clear hi)) | ((with_reducible refine gate_callee (f := 16) rfl ?_); refine goesL_ (some 18) rfl rfl Tryd.func16 (by kernel_rfl) rfl #[.int .i64 (wrap64 (Int.tmod a0 9999999999))] rfl qa_ ?_; (with_reducible refine (letterboxref01_Digits.calls k (wrap64 (Int.tmod a0 9999999999)) t213 _ A5.out).mono ?_); rintro e w62 ⟨rfl, hb⟩; refine ⟨_, rfl, ?_⟩; have n0_ := Aside0.mk (below_step (qb_ HB.out) hb); clear HB; have HB := n0_; clear n0_; (try clear hb); (try clear hb2); (try clear hk); (try clear hi)) | ((with_reducible refine gate_callee (f := 16) rfl ?_); refine goesL_ (some 24) rfl rfl Tryd.func16 (by kernel_rfl) rfl #[.int .i64 (wrap64 (Int.tmod a1 9999999999))] rfl qa_ ?_; (with_reducible refine (letterboxref01_Digits.calls k (wrap64 (Int.tmod a1 9999999999)) t214 _ A8.out).mono ?_); rintro e w63 ⟨rfl, hb⟩; refine ⟨_, rfl, ?_⟩; have n0_ := Aside0.mk (below_step (qb_ HB.out) hb); clear HB; have HB := n0_; clear n0_; (try clear hb); (try clear hb2); (try clear hk); (try clear hi)) | ((with_reducible refine gate_callee (f := 8) rfl ?_); refine goesL_ (some 29) rfl rfl Tryd.func8 (by kernel_rfl) rfl #[.string (((((⟨#[91, 93, 60]⟩ : ByteArray) ++ t213) ++ (⟨#[46]⟩ : ByteArray)) ++ t214) ++ (⟨#[62]⟩ : ByteArray))] rfl qa_ ?_; (with_reducible refine (section_Parse.calls k (((((⟨#[91, 93, 60]⟩ : ByteArray) ++ t213) ++ (⟨#[46]⟩ : ByteArray)) ++ t214) ++ (⟨#[62]⟩ : ByteArray)) t215 t218 t219 t222 t223 t224 t225 _ A11.out).mono ?_); rintro e w64 ⟨v216, v220, rfl, ho0, ho1, hb⟩; refine ⟨_, rfl, ?_⟩; have n0_ := Aside0.mk (Kd.R_lower ho0 (below_size (qb_ HB.out))); have n1_ := Aside0.mk (Kd.R_lower ho1 (below_size (qb_ HB.out))); have n2_ := Aside0.mk (below_step (qb_ HB.out) hb); clear HB; have HO217 := n0_; have HO221 := n1_; have HB := n2_; clear n0_ n1_ n2_; (try clear hb); (try clear hb2); (try clear hk); (try clear hi); (try clear ho0); (try clear ho1)) | ((with_reducible refine gate_dst (N := 7) rfl ?_); refine box_event ?hg (N := 7) ?hd (cs := #[.slice none 0 0, .int .i64 0, .slice none 0 0, .bool false, .int .i64 0, .int .i64 0]) (t := 26) ?hr ?_; (case hd => rfl); (case hg => rfl); (case hr => first | (go_simp; done) | (go_simp; rfl)); intro gb226 hg w65 hbox hb; have n0_ := Aside0.mk (Kd.R_below (ql_ HO217.out) hb); have n1_ := Aside0.mk (Kd.R_below (ql_ HO221.out) hb); have n2_ := Aside0.mk (below_step (qb_ HB.out) hb); have n3_ := Aside0.mk (hbox); have n4_ := Aside0.mk ((by rw [hg]; exact (below_size (qb_ HB.out)) : w.heap.size ≤ gb226)); have n5_ := Aside0.mk ((by rw [hg]; exact (below_size (qb_ HB.out)) : w.heap.size ≤ gb226)); clear HO217; clear HO221; clear HB; have HO217 := n0_; have HO221 := n1_; have HB := n2_; have BK226 := n3_; have GW226 := n4_; have GE226 := n5_; clear n0_ n1_ n2_ n3_ n4_ n5_; clear hb hbox hg; obtain ⟨Ao66, co66, eo66⟩ := Kd.R_slice HO217.out; subst eo66; have hcz67_0 : w65.cell? ⟨gb226, 0, none⟩ = some (.slice none 0 0) := (blk_cell BK226.out 0).trans rfl; have hcz67_1 : w65.cell? ⟨gb226, 1, none⟩ = some (.int .i64 0) := (blk_cell BK226.out 1).trans rfl; have hcz67_2 : w65.cell? ⟨gb226, 2, none⟩ = some (.slice none 0 0) := (blk_cell BK226.out 2).trans rfl; have hcz67_3 : w65.cell? ⟨gb226, 3, none⟩ = some (.bool false) := (blk_cell BK226.out 3).trans rfl; have hcz67_4 : w65.cell? ⟨gb226, 4, none⟩ = some (.int .i64 0) := (blk_cell BK226.out 4).trans rfl; have hcz67_5 : w65.cell? ⟨gb226, 5, none⟩ = some (.int .i64 0) := (blk_cell BK226.out 5).trans rfl; have hfz67_0 := blk_frozen BK226.out 0; have hfz67_1 := blk_frozen BK226.out 1; have hfz67_2 := blk_frozen BK226.out 2; have hfz67_3 := blk_frozen BK226.out 3; have hfz67_4 := blk_frozen BK226.out 4; have hfz67_5 := blk_frozen BK226.out 5; obtain ⟨Ao68, co68, eo68⟩ := Kd.R_slice HO221.out; subst eo68))
         go_ret
         exact ⟨qw_, qb_ HB.out⟩
       ·rw [if_neg c13] at H
        have c13b0 : decide (1 ≤ (wrap64 (Int.tmod a1 9999999999))) = false := decide_eq_false c13
        clear c13
        by_cases c69 : ((t225 == 0) == false) = true
        ·rw [if_pos c69] at H
         have c69b0 : ((t225 == 0) == false) = true := c69
         (try (have cz_ : (t225 == 0) = true := by cases h_ : (t225 == 0) with | true => rfl | false => exact absurd c69b0 (by rw [h_]; decide)))
         (try (have cz_ : (t225 == 0) = false := by cases h_ : (t225 == 0) with | false => rfl | true => exact absurd c69b0 (by rw [h_]; decide)))
         (try (have c69b1 : decide ((t225 == 0) = false) = true := by simpa using c69))
         (try (have c69b2 : ((t225 == 0) == false) = true := by simpa using c69))
         clear c69
         obtain rfl := Option.some.inj H
         go_enter Tryd.func6, Tryd.ntmps6
         go_wp2_with (first | ((with_reducible refine gate_callee (f := 7) rfl ?_); refine goesL_ (some 12) rfl rfl Tryd.func7 (by kernel_rfl) rfl #[] rfl qa_ ?_; (with_reducible refine (letterboxlaw15_awake.calls k  true _ A3.out).mono ?_); rintro e w70 ⟨rfl, hb⟩; refine ⟨_, rfl, ?_⟩; have n0_ := Aside0.mk (below_step (qb_ HB.out) hb); clear HB; have HB := n0_; clear n0_; (try clear hb); (try clear hb2); (try clear hk); (try clear hi)) | ((with_reducible refine gate_callee (f := 16) rfl ?_); refine goesL_ (some 18) rfl rfl Tryd.func16 (by kernel_rfl) rfl #[.int .i64 (wrap64 (Int.tmod a0 9999999999))] rfl qa_ ?_; (with_reducible refine (letterboxref01_Digits.calls k (wrap64 (Int.tmod a0 9999999999)) t213 _ A5.out).mono ?_); rintro e w71 ⟨rfl, hb⟩; refine ⟨_, rfl, ?_⟩; have n0_ := Aside0.mk (below_step (qb_ HB.out) hb); clear HB; have HB := n0_; clear n0_; (try clear hb); (try clear hb2); (try clear hk); (try clear hi)) | ((with_reducible refine gate_callee (f := 16) rfl ?_); refine goesL_ (some 24) rfl rfl Tryd.func16 (by kernel_rfl) rfl #[.int .i64 (wrap64 (Int.tmod a1 9999999999))] rfl qa_ ?_; (with_reducible refine (letterboxref01_Digits.calls k (wrap64 (Int.tmod a1 9999999999)) t214 _ A8.out).mono ?_); rintro e w72 ⟨rfl, hb⟩; refine ⟨_, rfl, ?_⟩; have n0_ := Aside0.mk (below_step (qb_ HB.out) hb); clear HB; have HB := n0_; clear n0_; (try clear hb); (try clear hb2); (try clear hk); (try clear hi)) | ((with_reducible refine gate_callee (f := 8) rfl ?_); refine goesL_ (some 29) rfl rfl Tryd.func8 (by kernel_rfl) rfl #[.string (((((⟨#[91, 93, 60]⟩ : ByteArray) ++ t213) ++ (⟨#[46]⟩ : ByteArray)) ++ t214) ++ (⟨#[62]⟩ : ByteArray))] rfl qa_ ?_; (with_reducible refine (section_Parse.calls k (((((⟨#[91, 93, 60]⟩ : ByteArray) ++ t213) ++ (⟨#[46]⟩ : ByteArray)) ++ t214) ++ (⟨#[62]⟩ : ByteArray)) t215 t218 t219 t222 t223 t224 t225 _ A11.out).mono ?_); rintro e w73 ⟨v216, v220, rfl, ho0, ho1, hb⟩; refine ⟨_, rfl, ?_⟩; have n0_ := Aside0.mk (Kd.R_lower ho0 (below_size (qb_ HB.out))); have n1_ := Aside0.mk (Kd.R_lower ho1 (below_size (qb_ HB.out))); have n2_ := Aside0.mk (below_step (qb_ HB.out) hb); clear HB; have HO217 := n0_; have HO221 := n1_; have HB := n2_; clear n0_ n1_ n2_; (try clear hb); (try clear hb2); (try clear hk); (try clear hi); (try clear ho0); (try clear ho1)) | ((with_reducible refine gate_dst (N := 7) rfl ?_); refine box_event ?hg (N := 7) ?hd (cs := #[.slice none 0 0, .int .i64 0, .slice none 0 0, .bool false, .int .i64 0, .int .i64 0]) (t := 26) ?hr ?_; (case hd => rfl); (case hg => rfl); (case hr => first | (go_simp; done) | (go_simp; rfl)); intro gb226 hg w74 hbox hb; have n0_ := Aside0.mk (Kd.R_below (ql_ HO217.out) hb); have n1_ := Aside0.mk (Kd.R_below (ql_ HO221.out) hb); have n2_ := Aside0.mk (below_step (qb_ HB.out) hb); have n3_ := Aside0.mk (hbox); have n4_ := Aside0.mk ((by rw [hg]; exact (below_size (qb_ HB.out)) : w.heap.size ≤ gb226)); have n5_ := Aside0.mk ((by rw [hg]; exact (below_size (qb_ HB.out)) : w.heap.size ≤ gb226)); clear HO217; clear HO221; clear HB; have HO217 := n0_; have HO221 := n1_; have HB := n2_; have BK226 := n3_; have GW226 := n4_; have GE226 := n5_; clear n0_ n1_ n2_ n3_ n4_ n5_; clear hb hbox hg; obtain ⟨Ao75, co75, eo75⟩ := Kd.R_slice HO217.out; subst eo75; have hcz76_0 : w74.cell? ⟨gb226, 0, none⟩ = some (.slice none 0 0) := (blk_cell BK226.out 0).trans rfl; have hcz76_1 : w74.cell? ⟨gb226, 1, none⟩ = some (.int .i64 0) := (blk_cell BK226.out 1).trans rfl; have hcz76_2 : w74.cell? ⟨gb226, 2, none⟩ = some (.slice none 0 0) := (blk_cell BK226.out 2).trans rfl; have hcz76_3 : w74.cell? ⟨gb226, 3, none⟩ = some (.bool false) := (blk_cell BK226.out 3).trans rfl; have hcz76_4 : w74.cell? ⟨gb226, 4, none⟩ = some (.int .i64 0) := (blk_cell BK226.out 4).trans rfl; have hcz76_5 : w74.cell? ⟨gb226, 5, none⟩ = some (.int .i64 0) := (blk_cell BK226.out 5).trans rfl; have hfz76_0 := blk_frozen BK226.out 0; have hfz76_1 := blk_frozen BK226.out 1; have hfz76_2 := blk_frozen BK226.out 2; have hfz76_3 := blk_frozen BK226.out 3; have hfz76_4 := blk_frozen BK226.out 4; have hfz76_5 := blk_frozen BK226.out 5; obtain ⟨Ao77, co77, eo77⟩ := Kd.R_slice HO221.out; subst eo77))
         go_ret
         exact ⟨qw_, qb_ HB.out⟩
        ·rw [if_neg c69] at H
         have c69b0 : ((t225 == 0) == false) = false := by simpa using c69
         (try (have cz_ : (t225 == 0) = true := by cases h_ : (t225 == 0) with | true => rfl | false => exact absurd c69b0 (by rw [h_]; decide)))
         (try (have cz_ : (t225 == 0) = false := by cases h_ : (t225 == 0) with | false => rfl | true => exact absurd c69b0 (by rw [h_]; decide)))
         (try (have c69b1 : decide ((t225 == 0) = false) = false := by simpa using c69))
         (try (have c69b2 : ((t225 == 0) == false) = false := by simpa using c69))
         (try (have c69b3 : ¬ ((t225 == 0) = false) := by simpa using c69))
         clear c69
         obtain rfl := Option.some.inj H
         go_enter Tryd.func6, Tryd.ntmps6
         go_wp2_with (first | ((with_reducible refine gate_callee (f := 7) rfl ?_); refine goesL_ (some 12) rfl rfl Tryd.func7 (by kernel_rfl) rfl #[] rfl qa_ ?_; (with_reducible refine (letterboxlaw15_awake.calls k  true _ A3.out).mono ?_); rintro e w78 ⟨rfl, hb⟩; refine ⟨_, rfl, ?_⟩; have n0_ := Aside0.mk (below_step (qb_ HB.out) hb); clear HB; have HB := n0_; clear n0_; (try clear hb); (try clear hb2); (try clear hk); (try clear hi)) | ((with_reducible refine gate_callee (f := 16) rfl ?_); refine goesL_ (some 18) rfl rfl Tryd.func16 (by kernel_rfl) rfl #[.int .i64 (wrap64 (Int.tmod a0 9999999999))] rfl qa_ ?_; (with_reducible refine (letterboxref01_Digits.calls k (wrap64 (Int.tmod a0 9999999999)) t213 _ A5.out).mono ?_); rintro e w79 ⟨rfl, hb⟩; refine ⟨_, rfl, ?_⟩; have n0_ := Aside0.mk (below_step (qb_ HB.out) hb); clear HB; have HB := n0_; clear n0_; (try clear hb); (try clear hb2); (try clear hk); (try clear hi)) | ((with_reducible refine gate_callee (f := 16) rfl ?_); refine goesL_ (some 24) rfl rfl Tryd.func16 (by kernel_rfl) rfl #[.int .i64 (wrap64 (Int.tmod a1 9999999999))] rfl qa_ ?_; (with_reducible refine (letterboxref01_Digits.calls k (wrap64 (Int.tmod a1 9999999999)) t214 _ A8.out).mono ?_); rintro e w80 ⟨rfl, hb⟩; refine ⟨_, rfl, ?_⟩; have n0_ := Aside0.mk (below_step (qb_ HB.out) hb); clear HB; have HB := n0_; clear n0_; (try clear hb); (try clear hb2); (try clear hk); (try clear hi)) | ((with_reducible refine gate_callee (f := 8) rfl ?_); refine goesL_ (some 29) rfl rfl Tryd.func8 (by kernel_rfl) rfl #[.string (((((⟨#[91, 93, 60]⟩ : ByteArray) ++ t213) ++ (⟨#[46]⟩ : ByteArray)) ++ t214) ++ (⟨#[62]⟩ : ByteArray))] rfl qa_ ?_; (with_reducible refine (section_Parse.calls k (((((⟨#[91, 93, 60]⟩ : ByteArray) ++ t213) ++ (⟨#[46]⟩ : ByteArray)) ++ t214) ++ (⟨#[62]⟩ : ByteArray)) t215 t218 t219 t222 t223 t224 t225 _ A11.out).mono ?_); rintro e w81 ⟨v216, v220, rfl, ho0, ho1, hb⟩; refine ⟨_, rfl, ?_⟩; have n0_ := Aside0.mk (Kd.R_lower ho0 (below_size (qb_ HB.out))); have n1_ := Aside0.mk (Kd.R_lower ho1 (below_size (qb_ HB.out))); have n2_ := Aside0.mk (below_step (qb_ HB.out) hb); clear HB; have HO217 := n0_; have HO221 := n1_; have HB := n2_; clear n0_ n1_ n2_; (try clear hb); (try clear hb2); (try clear hk); (try clear hi); (try clear ho0); (try clear ho1)) | ((with_reducible refine gate_dst (N := 7) rfl ?_); refine box_event ?hg (N := 7) ?hd (cs := #[.slice none 0 0, .int .i64 0, .slice none 0 0, .bool false, .int .i64 0, .int .i64 0]) (t := 26) ?hr ?_; (case hd => rfl); (case hg => rfl); (case hr => first | (go_simp; done) | (go_simp; rfl)); intro gb226 hg w82 hbox hb; have n0_ := Aside0.mk (Kd.R_below (ql_ HO217.out) hb); have n1_ := Aside0.mk (Kd.R_below (ql_ HO221.out) hb); have n2_ := Aside0.mk (below_step (qb_ HB.out) hb); have n3_ := Aside0.mk (hbox); have n4_ := Aside0.mk ((by rw [hg]; exact (below_size (qb_ HB.out)) : w.heap.size ≤ gb226)); have n5_ := Aside0.mk ((by rw [hg]; exact (below_size (qb_ HB.out)) : w.heap.size ≤ gb226)); clear HO217; clear HO221; clear HB; have HO217 := n0_; have HO221 := n1_; have HB := n2_; have BK226 := n3_; have GW226 := n4_; have GE226 := n5_; clear n0_ n1_ n2_ n3_ n4_ n5_; clear hb hbox hg; obtain ⟨Ao83, co83, eo83⟩ := Kd.R_slice HO217.out; subst eo83; have hcz84_0 : w82.cell? ⟨gb226, 0, none⟩ = some (.slice none 0 0) := (blk_cell BK226.out 0).trans rfl; have hcz84_1 : w82.cell? ⟨gb226, 1, none⟩ = some (.int .i64 0) := (blk_cell BK226.out 1).trans rfl; have hcz84_2 : w82.cell? ⟨gb226, 2, none⟩ = some (.slice none 0 0) := (blk_cell BK226.out 2).trans rfl; have hcz84_3 : w82.cell? ⟨gb226, 3, none⟩ = some (.bool false) := (blk_cell BK226.out 3).trans rfl; have hcz84_4 : w82.cell? ⟨gb226, 4, none⟩ = some (.int .i64 0) := (blk_cell BK226.out 4).trans rfl; have hcz84_5 : w82.cell? ⟨gb226, 5, none⟩ = some (.int .i64 0) := (blk_cell BK226.out 5).trans rfl; have hfz84_0 := blk_frozen BK226.out 0; have hfz84_1 := blk_frozen BK226.out 1; have hfz84_2 := blk_frozen BK226.out 2; have hfz84_3 := blk_frozen BK226.out 3; have hfz84_4 := blk_frozen BK226.out 4; have hfz84_5 := blk_frozen BK226.out 5; obtain ⟨Ao85, co85, eo85⟩ := Kd.R_slice HO221.out; subst eo85))
         go_ret
         exact ⟨qw_, qb_ HB.out⟩
      ·rw [if_neg c12] at H
       have c12b0 : decide ((wrap64 (Int.tmod a0 9999999999)) ≤ 4294967295) = false := decide_eq_false c12
       clear c12
       by_cases c86 : ((t225 == 0) == false) = true
       ·rw [if_pos c86] at H
        have c86b0 : ((t225 == 0) == false) = true := c86
        (try (have cz_ : (t225 == 0) = true := by cases h_ : (t225 == 0) with | true => rfl | false => exact absurd c86b0 (by rw [h_]; decide)))
        (try (have cz_ : (t225 == 0) = false := by cases h_ : (t225 == 0) with | false => rfl | true => exact absurd c86b0 (by rw [h_]; decide)))
        (try (have c86b1 : decide ((t225 == 0) = false) = true := by simpa using c86))
        (try (have c86b2 : ((t225 == 0) == false) = true := by simpa using c86))
        clear c86
        obtain rfl := Option.some.inj H
        go_enter Tryd.func6, Tryd.ntmps6
        go_wp2_with (first | ((with_reducible refine gate_callee (f := 7) rfl ?_); refine goesL_ (some 12) rfl rfl Tryd.func7 (by kernel_rfl) rfl #[] rfl qa_ ?_; (with_reducible refine (letterboxlaw15_awake.calls k  true _ A3.out).mono ?_); rintro e w87 ⟨rfl, hb⟩; refine ⟨_, rfl, ?_⟩; have n0_ := Aside0.mk (below_step (qb_ HB.out) hb); clear HB; have HB := n0_; clear n0_; (try clear hb); (try clear hb2); (try clear hk); (try clear hi)) | ((with_reducible refine gate_callee (f := 16) rfl ?_); refine goesL_ (some 18) rfl rfl Tryd.func16 (by kernel_rfl) rfl #[.int .i64 (wrap64 (Int.tmod a0 9999999999))] rfl qa_ ?_; (with_reducible refine (letterboxref01_Digits.calls k (wrap64 (Int.tmod a0 9999999999)) t213 _ A5.out).mono ?_); rintro e w88 ⟨rfl, hb⟩; refine ⟨_, rfl, ?_⟩; have n0_ := Aside0.mk (below_step (qb_ HB.out) hb); clear HB; have HB := n0_; clear n0_; (try clear hb); (try clear hb2); (try clear hk); (try clear hi)) | ((with_reducible refine gate_callee (f := 16) rfl ?_); refine goesL_ (some 24) rfl rfl Tryd.func16 (by kernel_rfl) rfl #[.int .i64 (wrap64 (Int.tmod a1 9999999999))] rfl qa_ ?_; (with_reducible refine (letterboxref01_Digits.calls k (wrap64 (Int.tmod a1 9999999999)) t214 _ A8.out).mono ?_); rintro e w89 ⟨rfl, hb⟩; refine ⟨_, rfl, ?_⟩; have n0_ := Aside0.mk (below_step (qb_ HB.out) hb); clear HB; have HB := n0_; clear n0_; (try clear hb); (try clear hb2); (try clear hk); (try clear hi)) | ((with_reducible refine gate_callee (f := 8) rfl ?_); refine goesL_ (some 29) rfl rfl Tryd.func8 (by kernel_rfl) rfl #[.string (((((⟨#[91, 93, 60]⟩ : ByteArray) ++ t213) ++ (⟨#[46]⟩ : ByteArray)) ++ t214) ++ (⟨#[62]⟩ : ByteArray))] rfl qa_ ?_; (with_reducible refine (section_Parse.calls k (((((⟨#[91, 93, 60]⟩ : ByteArray) ++ t213) ++ (⟨#[46]⟩ : ByteArray)) ++ t214) ++ (⟨#[62]⟩ : ByteArray)) t215 t218 t219 t222 t223 t224 t225 _ A11.out).mono ?_); rintro e w90 ⟨v216, v220, rfl, ho0, ho1, hb⟩; refine ⟨_, rfl, ?_⟩; have n0_ := Aside0.mk (Kd.R_lower ho0 (below_size (qb_ HB.out))); have n1_ := Aside0.mk (Kd.R_lower ho1 (below_size (qb_ HB.out))); have n2_ := Aside0.mk (below_step (qb_ HB.out) hb); clear HB; have HO217 := n0_; have HO221 := n1_; have HB := n2_; clear n0_ n1_ n2_; (try clear hb); (try clear hb2); (try clear hk); (try clear hi); (try clear ho0); (try clear ho1)) | ((with_reducible refine gate_dst (N := 7) rfl ?_); refine box_event ?hg (N := 7) ?hd (cs := #[.slice none 0 0, .int .i64 0, .slice none 0 0, .bool false, .int .i64 0, .int .i64 0]) (t := 26) ?hr ?_; (case hd => rfl); (case hg => rfl); (case hr => first | (go_simp; done) | (go_simp; rfl)); intro gb226 hg w91 hbox hb; have n0_ := Aside0.mk (Kd.R_below (ql_ HO217.out) hb); have n1_ := Aside0.mk (Kd.R_below (ql_ HO221.out) hb); have n2_ := Aside0.mk (below_step (qb_ HB.out) hb); have n3_ := Aside0.mk (hbox); have n4_ := Aside0.mk ((by rw [hg]; exact (below_size (qb_ HB.out)) : w.heap.size ≤ gb226)); have n5_ := Aside0.mk ((by rw [hg]; exact (below_size (qb_ HB.out)) : w.heap.size ≤ gb226)); clear HO217; clear HO221; clear HB; have HO217 := n0_; have HO221 := n1_; have HB := n2_; have BK226 := n3_; have GW226 := n4_; have GE226 := n5_; clear n0_ n1_ n2_ n3_ n4_ n5_; clear hb hbox hg; obtain ⟨Ao92, co92, eo92⟩ := Kd.R_slice HO217.out; subst eo92; have hcz93_0 : w91.cell? ⟨gb226, 0, none⟩ = some (.slice none 0 0) := (blk_cell BK226.out 0).trans rfl; have hcz93_1 : w91.cell? ⟨gb226, 1, none⟩ = some (.int .i64 0) := (blk_cell BK226.out 1).trans rfl; have hcz93_2 : w91.cell? ⟨gb226, 2, none⟩ = some (.slice none 0 0) := (blk_cell BK226.out 2).trans rfl; have hcz93_3 : w91.cell? ⟨gb226, 3, none⟩ = some (.bool false) := (blk_cell BK226.out 3).trans rfl; have hcz93_4 : w91.cell? ⟨gb226, 4, none⟩ = some (.int .i64 0) := (blk_cell BK226.out 4).trans rfl; have hcz93_5 : w91.cell? ⟨gb226, 5, none⟩ = some (.int .i64 0) := (blk_cell BK226.out 5).trans rfl; have hfz93_0 := blk_frozen BK226.out 0; have hfz93_1 := blk_frozen BK226.out 1; have hfz93_2 := blk_frozen BK226.out 2; have hfz93_3 := blk_frozen BK226.out 3; have hfz93_4 := blk_frozen BK226.out 4; have hfz93_5 := blk_frozen BK226.out 5; obtain ⟨Ao94, co94, eo94⟩ := Kd.R_slice HO221.out; subst eo94))
        go_ret
        exact ⟨qw_, qb_ HB.out⟩
       ·rw [if_neg c86] at H
        have c86b0 : ((t225 == 0) == false) = false := by simpa using c86
        (try (have cz_ : (t225 == 0) = true := by cases h_ : (t225 == 0) with | true => rfl | false => exact absurd c86b0 (by rw [h_]; decide)))
        (try (have cz_ : (t225 == 0) = false := by cases h_ : (t225 == 0) with | false => rfl | true => exact absurd c86b0 (by rw [h_]; decide)))
        (try (have c86b1 : decide ((t225 == 0) = false) = false := by simpa using c86))
        (try (have c86b2 : ((t225 == 0) == false) = false := by simpa using c86))
        (try (have c86b3 : ¬ ((t225 == 0) = false) := by simpa using c86))
        clear c86
        obtain rfl := Option.some.inj H
        go_enter Tryd.func6, Tryd.ntmps6
        go_wp2_with (first | ((with_reducible refine gate_callee (f := 7) rfl ?_); refine goesL_ (some 12) rfl rfl Tryd.func7 (by kernel_rfl) rfl #[] rfl qa_ ?_; (with_reducible refine (letterboxlaw15_awake.calls k  true _ A3.out).mono ?_); rintro e w95 ⟨rfl, hb⟩; refine ⟨_, rfl, ?_⟩; have n0_ := Aside0.mk (below_step (qb_ HB.out) hb); clear HB; have HB := n0_; clear n0_; (try clear hb); (try clear hb2); (try clear hk); (try clear hi)) | ((with_reducible refine gate_callee (f := 16) rfl ?_); refine goesL_ (some 18) rfl rfl Tryd.func16 (by kernel_rfl) rfl #[.int .i64 (wrap64 (Int.tmod a0 9999999999))] rfl qa_ ?_; (with_reducible refine (letterboxref01_Digits.calls k (wrap64 (Int.tmod a0 9999999999)) t213 _ A5.out).mono ?_); rintro e w96 ⟨rfl, hb⟩; refine ⟨_, rfl, ?_⟩; have n0_ := Aside0.mk (below_step (qb_ HB.out) hb); clear HB; have HB := n0_; clear n0_; (try clear hb); (try clear hb2); (try clear hk); (try clear hi)) | ((with_reducible refine gate_callee (f := 16) rfl ?_); refine goesL_ (some 24) rfl rfl Tryd.func16 (by kernel_rfl) rfl #[.int .i64 (wrap64 (Int.tmod a1 9999999999))] rfl qa_ ?_; (with_reducible refine (letterboxref01_Digits.calls k (wrap64 (Int.tmod a1 9999999999)) t214 _ A8.out).mono ?_); rintro e w97 ⟨rfl, hb⟩; refine ⟨_, rfl, ?_⟩; have n0_ := Aside0.mk (below_step (qb_ HB.out) hb); clear HB; have HB := n0_; clear n0_; (try clear hb); (try clear hb2); (try clear hk); (try clear hi)) | ((with_reducible refine gate_callee (f := 8) rfl ?_); refine goesL_ (some 29) rfl rfl Tryd.func8 (by kernel_rfl) rfl #[.string (((((⟨#[91, 93, 60]⟩ : ByteArray) ++ t213) ++ (⟨#[46]⟩ : ByteArray)) ++ t214) ++ (⟨#[62]⟩ : ByteArray))] rfl qa_ ?_; (with_reducible refine (section_Parse.calls k (((((⟨#[91, 93, 60]⟩ : ByteArray) ++ t213) ++ (⟨#[46]⟩ : ByteArray)) ++ t214) ++ (⟨#[62]⟩ : ByteArray)) t215 t218 t219 t222 t223 t224 t225 _ A11.out).mono ?_); rintro e w98 ⟨v216, v220, rfl, ho0, ho1, hb⟩; refine ⟨_, rfl, ?_⟩; have n0_ := Aside0.mk (Kd.R_lower ho0 (below_size (qb_ HB.out))); have n1_ := Aside0.mk (Kd.R_lower ho1 (below_size (qb_ HB.out))); have n2_ := Aside0.mk (below_step (qb_ HB.out) hb); clear HB; have HO217 := n0_; have HO221 := n1_; have HB := n2_; clear n0_ n1_ n2_; (try clear hb); (try clear hb2); (try clear hk); (try clear hi); (try clear ho0); (try clear ho1)) | ((with_reducible refine gate_dst (N := 7) rfl ?_); refine box_event ?hg (N := 7) ?hd (cs := #[.slice none 0 0, .int .i64 0, .slice none 0 0, .bool false, .int .i64 0, .int .i64 0]) (t := 26) ?hr ?_; (case hd => rfl); (case hg => rfl); (case hr => first | (go_simp; done) | (go_simp; rfl)); intro gb226 hg w99 hbox hb; have n0_ := Aside0.mk (Kd.R_below (ql_ HO217.out) hb); have n1_ := Aside0.mk (Kd.R_below (ql_ HO221.out) hb); have n2_ := Aside0.mk (below_step (qb_ HB.out) hb); have n3_ := Aside0.mk (hbox); have n4_ := Aside0.mk ((by rw [hg]; exact (below_size (qb_ HB.out)) : w.heap.size ≤ gb226)); have n5_ := Aside0.mk ((by rw [hg]; exact (below_size (qb_ HB.out)) : w.heap.size ≤ gb226)); clear HO217; clear HO221; clear HB; have HO217 := n0_; have HO221 := n1_; have HB := n2_; have BK226 := n3_; have GW226 := n4_; have GE226 := n5_; clear n0_ n1_ n2_ n3_ n4_ n5_; clear hb hbox hg; obtain ⟨Ao100, co100, eo100⟩ := Kd.R_slice HO217.out; subst eo100; have hcz101_0 : w99.cell? ⟨gb226, 0, none⟩ = some (.slice none 0 0) := (blk_cell BK226.out 0).trans rfl; have hcz101_1 : w99.cell? ⟨gb226, 1, none⟩ = some (.int .i64 0) := (blk_cell BK226.out 1).trans rfl; have hcz101_2 : w99.cell? ⟨gb226, 2, none⟩ = some (.slice none 0 0) := (blk_cell BK226.out 2).trans rfl; have hcz101_3 : w99.cell? ⟨gb226, 3, none⟩ = some (.bool false) := (blk_cell BK226.out 3).trans rfl; have hcz101_4 : w99.cell? ⟨gb226, 4, none⟩ = some (.int .i64 0) := (blk_cell BK226.out 4).trans rfl; have hcz101_5 : w99.cell? ⟨gb226, 5, none⟩ = some (.int .i64 0) := (blk_cell BK226.out 5).trans rfl; have hfz101_0 := blk_frozen BK226.out 0; have hfz101_1 := blk_frozen BK226.out 1; have hfz101_2 := blk_frozen BK226.out 2; have hfz101_3 := blk_frozen BK226.out 3; have hfz101_4 := blk_frozen BK226.out 4; have hfz101_5 := blk_frozen BK226.out 5; obtain ⟨Ao102, co102, eo102⟩ := Kd.R_slice HO221.out; subst eo102))
        go_ret
        exact ⟨qw_, qb_ HB.out⟩
     ·rw [if_neg c10] at H
      exact absurd H (by simp)
    ·rw [if_neg c9] at H
     exact absurd H (by simp)
   ·rw [if_neg c7] at H
    exact absurd H (by simp)
  ·rw [if_neg c6] at H
   exact absurd H (by simp)
 ·replace c4 := Bool.eq_false_iff.mpr c4
  subst c4
  have H1 : (some false) = some r := by rw [if_neg (show ¬ (false = true) by decide)] at H; exact H
  clear H
  have H := H1
  clear H1
  obtain rfl := Option.some.inj H
  go_enter Tryd.func6, Tryd.ntmps6
  go_wp2_with (first | ((with_reducible refine gate_callee (f := 7) rfl ?_); refine goesL_ (some 12) rfl rfl Tryd.func7 (by kernel_rfl) rfl #[] rfl qa_ ?_; (with_reducible refine (letterboxlaw15_awake.calls k  false _ A3.out).mono ?_); rintro e w103 ⟨rfl, hb⟩; refine ⟨_, rfl, ?_⟩; have n0_ := Aside0.mk (below_step (qb_ HB.out) hb); clear HB; have HB := n0_; clear n0_; (try clear hb); (try clear hb2); (try clear hk); (try clear hi)))
  go_ret
  exact ⟨qw_, qb_ HB.out⟩

/-- THE ONE PURE STATEMENT of letterboxlaw15_SectionCuts: yours. -/
def letterboxlaw15_SectionCuts.Pure : Prop := ∀ (a0 : Int) (a1 : Int), (Lit.int .u64 a0).wf = true → (Lit.int .u64 a1).wf = true → ∃ k, letterboxlaw15_SectionCuts.f k a0 a1 = some true
theorem letterboxlaw15_SectionCuts.walk (P : letterboxlaw15_SectionCuts.Pure) (a0 : Int) (a1 : Int) (w : World) (w0 : (Lit.int .u64 a0).wf = true) (w1 : (Lit.int .u64 a1).wf = true) (hL0 : sec_Words w) :
  Calls Tryd.prog 6 #[.int .u64 a0, .int .u64 a1] w fun e w' => e = .returned (.bool true) ∧ Below w.heap.size w w' := by
 obtain ⟨k, h⟩ := P a0 a1 w0 w1
 refine (letterboxlaw15_SectionCuts.calls k a0 a1 true w h).mono ?_
 rintro e w' ⟨rfl, hd⟩
 exact ⟨rfl, hd⟩

end Go.Proofs.YtbjbagocnnffaaaDoor.P
