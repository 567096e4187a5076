-- Written by a program of this session (wip/tools/mk.sh) for this claim: it runs the kit's print with contracts of our own. Lean checks it.
import Derived.Test.YtmbiggcapakjjaaDoorPx0
import Derived.Test.YtmbiggcapakjjaaDoorZSplit
import Derived.Test.YtmbiggcapakjjaaDoorPx5
import Derived.Test.YtmbiggcapakjjaaDoorPx6
import Derived.Test.YtmbiggcapakjjaaDoorPx7
import Derived.Test.YtmbiggcapakjjaaDoorPx9
import Derived.Test.YtmbiggcapakjjaaDoorMark
namespace Go.Proofs.YtmbiggcapakjjaaDoor.P
open Go.RowKit Go.Proofs.YtmbiggcapakjjaaDoorW.PrintWords Go.Proofs.YtmbiggcapakjjaaDoorW.PrintLast Go.Proofs.YtmbiggcapakjjaaDoorW.PrintMore
attribute [-simp] Int.tmod_tmod_of_dvd
attribute [local go_sem] max2_int min2_int max_two min_two max_three min_three max_four min_four   -- for this text's walks alone
set_option linter.unusedVariables false
set_option linter.unusedSimpArgs false

/-! ### date_Day: function 16 -/
def date_Day.f (a0_0 : Int) (a0_1 : Int) : Option (Int) := (date_floor.f (wrap64 (a0_0 + (wrap64 (a0_1 * 60)))) 86400).bind fun t244 => (some t244)
set_option maxHeartbeats 8000000 in
set_option maxRecDepth 100000 in
theorem date_Day.calls (a0_0 : Int) (a0_1 : Int) (r : Int) (w : World) (h : date_Day.f a0_0 a0_1 = some r) :
    Calls Tryd.prog 16 #[.agg #[.int .i64 a0_0, .int .i64 a0_1]] w fun e w' => e = .returned (.int .i64 r) ∧ Below w.heap.size w w' := by
  have hu24 := Tryd.underlying24
  have HB := Aside0.mk (Below.refl w.heap.size w)
  have H : ((date_floor.f (wrap64 (a0_0 + (wrap64 (a0_1 * 60)))) 86400).bind fun t244 => (some t244)) = some r := h
  clear h
  replace H := Option.bind_eq_some_iff.mp H
  obtain ⟨t244, A20, H⟩ := H
  replace H : (some t244) = some r := H
  have A2 := Aside0.mk A20
  clear A20
  obtain rfl := Option.some.inj H
  go_enter Tryd.func16, Tryd.ntmps16
  go_wp2_with (first | ((with_reducible refine gate_dst (N := 1) rfl ?_); refine box_event ?hg (N := 1) ?hd (cs := #[.int .i64 a0_0, .int .i64 a0_1]) (t := 24) ?hr ?_; (case hd => rfl); (case hg => rfl); (case hr => first | (go_simp; done) | (go_simp; rfl)); intro gb243 hg w3 hbox hb; have n0_ := Aside0.mk (below_step (by repeat (first | (with_reducible first | exact HB.out | apply below_alloc | apply pw_below_drewN | apply below_drew1) | exact HB.out)) hb); have n1_ := Aside0.mk (hbox); have n2_ := Aside0.mk ((by rw [hg]; exact (below_size (by repeat (first | (with_reducible first | exact HB.out | apply below_alloc | apply pw_below_drewN | apply below_drew1) | exact HB.out))) : w.heap.size ≤ gb243)); have n3_ := Aside0.mk ((by rw [hg]; exact (below_size (by repeat (first | (with_reducible first | exact HB.out | apply below_alloc | apply pw_below_drewN | apply below_drew1) | exact HB.out))) : w.heap.size ≤ gb243)); clear HB; have HB := n0_; have BK243 := n1_; have GW243 := n2_; have GE243 := n3_; clear n0_ n1_ n2_ n3_; clear hb hbox hg; have hcz4_0 : w3.cell? ⟨gb243, 0, none⟩ = some (.int .i64 a0_0) := (blk_cell BK243.out 0).trans rfl; have hcz4_1 : w3.cell? ⟨gb243, 1, none⟩ = some (.int .i64 a0_1) := (blk_cell BK243.out 1).trans rfl; have hfz4_0 := blk_frozen BK243.out 0; have hfz4_1 := blk_frozen BK243.out 1) | ((with_reducible refine gate_callee (f := 38) rfl ?_); refine goesL_ (some 9) rfl rfl Tryd.func38 (by kernel_rfl) rfl #[.int .i64 (wrap64 (a0_0 + (wrap64 (a0_1 * 60)))), .int .i64 86400] rfl (by (try simp only [List.map_toArray, List.map_cons, List.map_nil]); first | done | rfl | (simp only [List.length_drop, List.length_take]; rfl)) ?_; (with_reducible refine (date_floor.calls (wrap64 (a0_0 + (wrap64 (a0_1 * 60)))) 86400 t244 _ A2.out).mono ?_); rintro e w' ⟨rfl, ⟨nd, rfl⟩⟩; refine ⟨_, rfl, ?_⟩))
  go_ret
  exact ⟨by first | rfl | (simp [errW_none, errW_some] <;> rfl) | (simp [*, errW_none, errW_some] <;> rfl), by repeat (first | (with_reducible first | exact HB.out | apply below_alloc | apply pw_below_drewN | apply below_drew1 | refine below_set ?_ GE243.out) | exact HB.out)⟩

/-! ### letterboxlaw11_awake: function 7 -/
def letterboxlaw11_awake.f : Option Bool := some true
def aw_1 : ByteArray := ⟨#[84, 104, 117, 44, 32, 49, 32, 74, 97, 110, 32, 49, 57, 55, 48, 32, 48, 49, 58, 48, 48, 58, 48, 48, 32, 43, 48, 49, 48, 48]⟩
def aw_2 : ByteArray := ⟨#[34, 32, 49, 45, 74, 97, 110, 45, 49, 57, 55, 48, 32, 48, 49, 58, 48, 48, 58, 48, 48, 32, 43, 48, 49, 48, 48, 34]⟩
def aw_3 : ByteArray := ⟨#[50, 45, 106, 97, 110, 45, 49, 57, 55, 48]⟩
theorem aw_one : date_Parse.f 400 aw_1 = some (0, 60, true) := by kernel_rfl
theorem aw_two : date_ParseInternal.f 400 aw_2 = some (0, 60, true) := by kernel_rfl
theorem aw_three : date_ParseDay.f 400 aw_3 = some (1, true) := by kernel_rfl
theorem aw_said : date_Internal.f 400 0 60 = some aw_2 := by kernel_rfl
theorem aw_eq : (aw_2.toList == [34, 32, 49, 45, 74, 97, 110, 45, 49, 57, 55, 48, 32, 48, 49, 58, 48, 48, 58, 48, 48, 32, 43, 48, 49, 48, 48, 34]) = true := by kernel_rfl
theorem aw_day : date_Day.f 0 60 = some 0 := by kernel_rfl
set_option maxHeartbeats 4000000 in
theorem letterboxlaw11_awake.calls (r : Bool) (w : World) (h : letterboxlaw11_awake.f = some r) (hL0 : mo_Words w := by first | exact hL0 | exact mo_Words.below hL0 (by repeat (first | (with_reducible first | exact HB.out | apply below_alloc | apply pw_below_drewN | apply below_drew1 | refine below_set ?_ (Aside0.out (by assumption))) | exact HB.out))) :
    Calls Tryd.prog 7 #[] w fun e w' => e = .returned (.bool r) ∧ Below w.heap.size w w' := by
  obtain rfl : r = true := (Option.some.inj h).symm
  clear h
  have HL := Aside0.mk hL0
  clear hL0
  have hae := aw_eq
  go_enter Tryd.func7, Tryd.ntmps7
  go_wp2_with fail
  refine (date_Parse.calls 400 aw_1 0 60 true _ aw_one HL.out).mono ?_
  rintro e w1 ⟨rfl, b1⟩
  have HB1 := Aside0.mk b1
  clear b1
  go_wp2_with fail
  refine (date_ParseInternal.calls 400 aw_2 0 60 true _ aw_two (HL.out.below (below_alloc HB1.out _))).mono ?_
  rintro e w2 ⟨rfl, b2⟩
  have D2 := Aside0.mk (blk_below (blk_new w1 (.cells #[.int .i64 0, .int .i64 60] 24)) b2)
  have HB2 := Aside0.mk ((below_alloc HB1.out (.cells #[.int .i64 0, .int .i64 60] 24)).trans (b2.mono (below_alloc HB1.out _).size))
  clear b2
  go_wp2_with fail
  refine (date_ParseDay.calls 400 aw_3 1 true _ aw_three (HL.out.below (below_alloc HB2.out _))).mono ?_
  rintro e w3 ⟨rfl, b3⟩
  have D3 := blk_below (blk_below D2.out (below_alloc (Below.refl w2.heap.size w2) (.cells #[.int .i64 0, .int .i64 60] 24))) b3
  have E3 := blk_below (blk_new w2 (.cells #[.int .i64 0, .int .i64 60] 24)) b3
  have HB3 := Aside0.mk ((below_alloc HB2.out (.cells #[.int .i64 0, .int .i64 60] 24)).trans (b3.mono (below_alloc HB2.out _).size))
  have z0 := blk_cell D3 0
  have z1 := blk_cell D3 1
  have y0 := blk_cell E3 0
  have y1 := blk_cell E3 1
  simp only [List.getElem?_toArray, List.getElem?_cons_zero, List.getElem?_cons_succ] at z0 z1 y0 y1
  have HD3 := Aside0.mk D3
  have HE3 := Aside0.mk E3
  clear D3 E3 b3
  go_wp2_with fail
  refine (date_Internal.calls 400 0 60 aw_2 _ aw_said (HL.out.below HB3.out)).mono ?_
  rintro e w4 ⟨rfl, b4⟩
  have D4 := blk_below HD3.out b4
  have x0 := blk_cell D4 0
  have x1 := blk_cell D4 1
  simp only [List.getElem?_toArray, List.getElem?_cons_zero, List.getElem?_cons_succ] at x0 x1
  have HB4 := Aside0.mk (HB3.out.trans (b4.mono HB3.out.size))
  clear b4 D4 z0 z1 y0 y1
  go_wp2_with fail
  refine (date_Day.calls 0 60 0 _ aw_day).mono ?_
  rintro e w5 ⟨rfl, b5⟩
  have HB5 := Aside0.mk (HB4.out.trans (b5.mono HB4.out.size))
  clear b5
  go_wp2
  go_ret
  exact ⟨rfl, HB5.out⟩

/-! ### letterboxlaw11_DateZones: function 6 -/
/-- a moment's text without its quotes, and without hyphens among its first bytes -/
def dz_front (l : List Int) : List Int := (l.take 7).map (fun c => if c = 45 then 32 else c) ++ l.drop 7
def dz_cut (s : ByteArray) : List Int := if rd ((bytesOf s).take 27 |>.drop 1) 0 = 32 then ((bytesOf s).take 27 |>.drop 1).drop 1 else (bytesOf s).take 27 |>.drop 1
/-- hyphens taken out of so many bytes from a place on -/
def dz_rep (l : List Int) (a i : Nat) : List Int := l.take a ++ (((l.drop a).take i).map (fun c => if c = 45 then 32 else c) ++ l.drop (a + i))
theorem dz_rep_0 (l : List Int) (a : Nat) : dz_rep l a 0 = l := by simp [dz_rep]
theorem dz_rep_len (l : List Int) (a i : Nat) : (dz_rep l a i).length = l.length := by
  unfold dz_rep
  simp only [List.length_append, List.length_map, List.length_take, List.length_drop]
  omega
theorem dz_pre (l : List Int) (a i : Nat) (h : a + i ≤ l.length) : (l.take a ++ ((l.drop a).take i).map (fun c => if c = 45 then 32 else c)).length = a + i := by
  simp only [List.length_append, List.length_map, List.length_take, List.length_drop]
  omega
theorem dz_rep_at (l : List Int) (a i : Nat) (h : a + i < l.length) : rd (dz_rep l a i) ((a + i : Nat) : Int) = rd l ((a + i : Nat) : Int) := by
  have hp := dz_pre l a i (by omega)
  unfold dz_rep rd
  rw [Int.toNat_natCast, ← List.append_assoc, List.getD_eq_getElem?_getD, List.getD_eq_getElem?_getD, List.getElem?_append_right (by omega), hp, Nat.sub_self, List.getElem?_drop]
  rfl
theorem dz_rep_next (l : List Int) (a i : Nat) (h : a + i < l.length) : dz_rep l a (i + 1) = (dz_rep l a i).set (a + i) (if rd l ((a + i : Nat) : Int) = 45 then 32 else rd l ((a + i : Nat) : Int)) := by
  have hp := dz_pre l a i (by omega)
  have hr : rd l ((a + i : Nat) : Int) = l[a + i] := by
    unfold rd
    rw [Int.toNat_natCast, List.getD_eq_getElem?_getD, List.getElem?_eq_getElem h]
    rfl
  rw [hr]
  unfold dz_rep
  have h1 : (l.drop a).take (i + 1) = (l.drop a).take i ++ [l[a + i]] := by
    rw [List.take_succ_eq_append_getElem (by rw [List.length_drop]; omega), List.getElem_drop]
  have h2 : l.drop (a + i) = l[a + i] :: l.drop (a + (i + 1)) := List.drop_eq_getElem_cons h
  have e : ∀ M : List Int, l.take a ++ (M ++ l.drop (a + i)) = (l.take a ++ M) ++ (l[a + i] :: l.drop (a + (i + 1))) := fun M => by rw [h2, List.append_assoc]
  rw [e, List.set_append_right _ _ (by omega), hp, Nat.sub_self, List.set_cons_zero, h1, List.map_append]
  simp [List.append_assoc]
theorem dz_rep_end (l : List Int) (a : Nat) (h : a + 7 ≤ l.length) : (dz_rep l a 7).drop a = dz_front (l.drop a) := by
  unfold dz_rep dz_front
  rw [List.drop_left' (by rw [List.length_take]; omega), List.drop_drop]
theorem dz_set_self (l : List Int) (i : Nat) : l.set i (rd l (i : Int)) = l := by
  unfold rd
  rw [Int.toNat_natCast]
  apply List.ext_getElem?
  intro j
  rw [List.getElem?_set]
  by_cases h : i = j
  · subst h
    by_cases hl : i < l.length
    · simp [hl]
    · simp [hl]
  · simp [h]
/-- the law, for the answer true alone -/
def letterboxlaw11_DateZones.f (k : Nat) (a0 : Int) (a1 : Int) (a2 : Int) : Option Bool :=
  (date_Internal.f k a0 (Int.tmod a1 1440)).bind fun s => (date_Internal.f k a0 (Int.tmod a2 1440)).bind fun t => (date_ParseInternal.f k s).bind fun u => (date_ParseInternal.f k t).bind fun v => (date_Parse.f k (strOfNums (dz_front (dz_cut s)))).bind fun h =>
    if 0 ≤ a0 ∧ a0 < 4294967296 ∧ -32768 ≤ a1 ∧ a1 ≤ 32767 ∧ -32768 ≤ a2 ∧ a2 ≤ 32767 ∧ s.size = 28 ∧ t.size = 28 ∧ u = (v.1, Int.tmod a1 1440, true) ∧ v.2 = (Int.tmod a2 1440, true) ∧ h = (v.1, Int.tmod a1 1440, true) then some true else none
def letterboxlaw11_DateZones.Pure : Prop := ∀ (a0 a1 a2 : Int), (Lit.int .u32 a0).wf = true → (Lit.int .i16 a1).wf = true → (Lit.int .i16 a2).wf = true → ∃ k, letterboxlaw11_DateZones.f k a0 a1 a2 = some true
set_option maxHeartbeats 4000000 in
theorem letterboxlaw11_DateZones.calls (k : Nat) (a0 a1 a2 : Int) (r : Bool) (w : World) (h : letterboxlaw11_DateZones.f k a0 a1 a2 = some r) (hL0 : mo_Words w := by first | exact hL0 | exact mo_Words.below hL0 (by repeat (first | (with_reducible first | exact HB.out | apply below_alloc | apply pw_below_drewN | apply below_drew1 | refine below_set ?_ (Aside0.out (by assumption))) | exact HB.out))) :
    Calls Tryd.prog 6 #[.int .u32 a0, .int .i16 a1, .int .i16 a2] w fun e w' => e = .returned (.bool r) ∧ Below w.heap.size w w' := by
  obtain ⟨s, hI, h⟩ := Option.bind_eq_some_iff.mp h
  obtain ⟨t, hJ, h⟩ := Option.bind_eq_some_iff.mp h
  obtain ⟨⟨u1, u2, u3⟩, hU, h⟩ := Option.bind_eq_some_iff.mp h
  obtain ⟨⟨v1, v2, v3⟩, hV, h⟩ := Option.bind_eq_some_iff.mp h
  obtain ⟨⟨h1, h2, h3⟩, hH, h⟩ := Option.bind_eq_some_iff.mp h
  obtain ⟨A, hAe⟩ : ∃ A, Int.tmod a1 1440 = A := ⟨_, rfl⟩
  obtain ⟨B, hBe⟩ : ∃ B, Int.tmod a2 1440 = B := ⟨_, rfl⟩
  rw [hAe] at hI
  rw [hBe] at hJ
  rw [hAe, hBe] at h
  by_cases hc : 0 ≤ a0 ∧ a0 < 4294967296 ∧ -32768 ≤ a1 ∧ a1 ≤ 32767 ∧ -32768 ≤ a2 ∧ a2 ≤ 32767 ∧ s.size = 28 ∧ t.size = 28 ∧ (u1, u2, u3) = (v1, A, true) ∧ (v2, v3) = (B, true) ∧ (h1, h2, h3) = (v1, A, true)
  case neg => rw [if_neg hc] at h; exact absurd h (by simp)
  rw [if_pos hc] at h
  obtain rfl := Option.some.inj h
  obtain ⟨g0, g1, g2, g3, g4, g5, hsz, htz, hu, hv, hh⟩ := hc
  simp only [Prod.mk.injEq] at hu hv hh
  obtain ⟨rfl, rfl, rfl⟩ := hu
  obtain ⟨rfl, rfl⟩ := hv
  obtain ⟨rfl, rfl, rfl⟩ := hh
  clear h
  have HL := Aside0.mk hL0
  clear hL0
  have hAb : -1440 < h2 ∧ h2 < 1440 := by
    rw [← hAe]
    exact ⟨Int.lt_tmod_of_pos a1 (by decide), Int.tmod_lt_of_pos a1 (by decide)⟩
  have hBb : -1440 < v2 ∧ v2 < 1440 := by
    rw [← hBe]
    exact ⟨Int.lt_tmod_of_pos a2 (by decide), Int.tmod_lt_of_pos a2 (by decide)⟩
  have kI := Aside0.mk hI
  have kJ := Aside0.mk hJ
  have kU := Aside0.mk hU
  have kV := Aside0.mk hV
  have kH := Aside0.mk hH
  have kA := Aside0.mk hAb
  have kB := Aside0.mk hBb
  have e0 : wrap64 a0 = a0 := (by unfold wrap64; omega)
  have e1 : wrap64 a1 = a1 := (by unfold wrap64; omega)
  have e2 : wrap64 a2 = a2 := (by unfold wrap64; omega)
  have e3 : wrap64 h2 = h2 := (by unfold wrap64; omega)
  have e4 : wrap64 v2 = v2 := (by unfold wrap64; omega)
  have s28 : ((s.size : Int) != 28) = false := by rw [hsz]; rfl
  have t28 : ((t.size : Int) != 28) = false := by rw [htz]; rfl
  clear hI hJ hU hV hH hAb hBb g0 g1 g2 g3 g4 g5
  go_enter Tryd.func6, Tryd.ntmps6
  go_wp2_with fail
  refine (letterboxlaw11_awake.calls true _ rfl HL.out).mono ?_
  rintro e w1 ⟨rfl, b1⟩
  have HB1 := Aside0.mk b1
  clear b1
  go_wp2_with fail
  have ha0 := below_alloc HB1.out (.cells #[.int .i64 a0, .int .i64 h2] 24)
  have ha1 := below_alloc ha0 (.cells #[.int .i64 a0, .int .i64 v2] 24)
  refine (date_Internal.calls k a0 h2 s _ kI.out (HL.out.below ha1)).mono ?_
  rintro e w2 ⟨rfl, b2⟩
  have D0 := blk_below (blk_new w1 (.cells #[.int .i64 a0, .int .i64 h2] 24)) (below_alloc (Below.refl _ _) (.cells #[.int .i64 a0, .int .i64 v2] 24))
  have D2 := Aside0.mk (blk_below D0 b2)
  have hz : (w1.alloc (.cells #[.int .i64 a0, .int .i64 h2] 24)).heap.size = w1.heap.size + 1 := by simp
  have E0 := blk_new (w1.alloc (.cells #[.int .i64 a0, .int .i64 h2] 24)) (.cells #[.int .i64 a0, .int .i64 v2] 24)
  rw [hz] at E0
  have E2 := Aside0.mk (blk_below E0 b2)
  have HB2 := Aside0.mk (ha1.trans (b2.mono ha1.size))
  clear b2 D0 E0 ha0 ha1 hz
  have t0 := blk_cell E2.out 0
  have t1 := blk_cell E2.out 1
  simp only [List.getElem?_toArray, List.getElem?_cons_zero, List.getElem?_cons_succ] at t0 t1
  go_wp2_with fail
  refine (date_Internal.calls k a0 v2 t _ kJ.out (HL.out.below HB2.out)).mono ?_
  rintro e w3 ⟨rfl, b3⟩
  have D3 := Aside0.mk (blk_below D2.out b3)
  have E3 := Aside0.mk (blk_below E2.out b3)
  have HB3 := Aside0.mk (HB2.out.trans (b3.mono HB2.out.size))
  clear b3 t0 t1
  go_wp2_with fail
  refine (date_ParseInternal.calls k s h1 h2 true _ kU.out (HL.out.below HB3.out)).mono ?_
  rintro e w4 ⟨rfl, b4⟩
  have D4 := Aside0.mk (blk_below D3.out b4)
  have E4 := Aside0.mk (blk_below E3.out b4)
  have HB4 := Aside0.mk (HB3.out.trans (b4.mono HB3.out.size))
  clear b4
  go_wp2_with fail
  have hu0 := below_alloc HB4.out (.cells #[.int .i64 h1, .int .i64 h2] 24)
  refine (date_ParseInternal.calls k t h1 v2 true _ kV.out (HL.out.below hu0)).mono ?_
  rintro e w5 ⟨rfl, b5⟩
  have D5 := Aside0.mk (blk_below (blk_below D4.out (below_alloc (Below.refl _ _) (.cells #[.int .i64 h1, .int .i64 h2] 24))) b5)
  have E5 := Aside0.mk (blk_below (blk_below E4.out (below_alloc (Below.refl _ _) (.cells #[.int .i64 h1, .int .i64 h2] 24))) b5)
  have F5 := Aside0.mk (blk_below (blk_new w4 (.cells #[.int .i64 h1, .int .i64 h2] 24)) b5)
  have HB5 := Aside0.mk (hu0.trans (b5.mono hu0.size))
  clear b5 hu0
  have DW := Aside0.mk (blk_below D5.out (below_alloc (Below.refl _ _) (.cells #[.int .i64 h1, .int .i64 v2] 24)))
  have EW := Aside0.mk (blk_below E5.out (below_alloc (Below.refl _ _) (.cells #[.int .i64 h1, .int .i64 v2] 24)))
  have FW := Aside0.mk (blk_below F5.out (below_alloc (Below.refl _ _) (.cells #[.int .i64 h1, .int .i64 v2] 24)))
  have GW := Aside0.mk (blk_new w5 (.cells #[.int .i64 h1, .int .i64 v2] 24))
  have HBW := Aside0.mk (below_alloc HB5.out (.cells #[.int .i64 h1, .int .i64 v2] 24))
  obtain ⟨W5, hW5⟩ : ∃ W5, w5.alloc (.cells #[.int .i64 h1, .int .i64 v2] 24) = W5 := ⟨_, rfl⟩
  rw [hW5] at DW EW FW GW HBW
  have s26 : (s.extract 1 27).size = 26 := by rw [ByteArray.size_extract, hsz]; rfl
  have hcv := print_bytes (P := Tryd.prog) 9 41 5 Tryd.underlying9 Tryd.underlying41 Tryd.underlying5 (s.extract 1 27) W5
  rw [s26] at hcv
  have hR0 := Mk.start 5 W5 (s.extract 1 27) (by rw [s26]; decide)
  have hbB := bytes_below (Below.refl W5.heap.size W5) (Nat.le_refl _) 5 (s.extract 1 27)
  have hL0e : bytesOf (s.extract 1 27) = ((bytesOf s).take 27).drop 1 := Aids.bytes_extract s 1 27
  rw [hL0e] at hR0
  have hLl : (((bytesOf s).take 27).drop 1).length = 26 := by rw [List.length_drop, List.length_take, bytesOf_length, hsz]; rfl
  have DX := Aside0.mk (blk_below DW.out hbB)
  have EX := Aside0.mk (blk_below EW.out hbB)
  have FX := Aside0.mk (blk_below FW.out hbB)
  have GX := Aside0.mk (blk_below GW.out hbB)
  have HBX := Aside0.mk (HBW.out.trans (hbB.mono HBW.out.size))
  obtain ⟨X, hX⟩ : ∃ X, Lib.bytesWorld W5 5 (s.extract 1 27) = X := ⟨_, rfl⟩
  rw [hX] at hcv hR0 DX EX FX GX HBX
  obtain ⟨l, hl⟩ : ∃ l, ((bytesOf s).take 27).drop 1 = l := ⟨_, rfl⟩
  have kH2 := kH.out
  unfold dz_cut at kH2
  rw [hl] at hR0 hLl kH2
  have kHl := Aside0.mk kH2
  have hR := Aside0.mk hR0
  obtain ⟨hc0, hf0⟩ := Mk.cell hR0 0 (by omega)
  clear kH2 hR0 hL0e hbB hX hl
  have hgX : W5.heap.size < X.heap.size := Mk.lt hR.out
  have hcap : (grownCap W5 26 0 5 = 1) = False := eq_false (by have := grownCap_ge W5 26 0 5; omega)
  clear e0 e1 e2 e3 e4
  by_cases h32 : rd l 0 = 32
  · have kHm0 : date_Parse.f k (strOfNums (dz_front (l.drop 1))) = some (h1, h2, true) := by have := kHl.out; rwa [if_pos h32] at this
    rw [show ((0 : Nat) : Int) = 0 from rfl, h32] at hc0
    obtain ⟨Z, hZe⟩ : ∃ Z, strOfNums (dz_front (l.drop 1)) = Z := ⟨_, rfl⟩
    have hZ := Aside0.mk hZe
    rw [hZe] at kHm0
    have kHm := Aside0.mk kHm0
    clear kHm0 hZe
    go_wp2_with fail
    go_loopw [17] (fun v17 wr => ∃ i : Nat, i ≤ 7 ∧ v17 = .int .i64 (i : Int) ∧ Aside0 (Mk.row 5 W5.heap.size wr (dz_rep l 1 i)) ∧ Aside0 (Below w.heap.size w wr) ∧ Aside0 (∀ q, q < W5.heap.size → wr.heap[q]? = X.heap[q]?) ∧ Aside0 (X.heap.size ≤ wr.heap.size)) (fun v17 _ => 7 - (intOf v17).toNat)
    case atStart => exact ⟨0, by decide, rfl, ⟨by rw [dz_rep_0]; exact hR.out⟩, HBX, ⟨fun _ _ => rfl⟩, ⟨Nat.le_refl _⟩⟩
    case round =>
      obtain ⟨i, hi, rfl, HRi, HBi, HKi, HZi⟩ := hrel
      have hlr := dz_rep_len l 1 i
      rw [hLl] at hlr
      have n0 : decide ((i : Int) < 25) = true := decide_eq_true (by omega)
      by_cases h7 : i < 7
      · have n1 : decide ((i : Int) < 7) = true := decide_eq_true (by omega)
        obtain ⟨hc1, hf1⟩ := Mk.cell HRi.out (1 + i) (by omega)
        have hrd := dz_rep_at l 1 i (by omega)
        have hnx := dz_rep_next l 1 i (by omega)
        rw [hrd] at hc1
        obtain ⟨c, hce⟩ : ∃ c, rd l ((1 + i : Nat) : Int) = c := ⟨_, rfl⟩
        rw [hce] at hc1 hnx
        have hLT := Aside0.mk (Mk.lt HRi.out)
        have k0 := Aside0.mk hnx
        by_cases h45 : c = 45
        · subst h45
          have HS := Aside0.mk (show Mk.row 5 W5.heap.size (wr.setCell ⟨W5.heap.size, 1 + i, none⟩ (.int .u8 32)) (dz_rep l 1 (i + 1)) from by rw [hnx]; exact Mk.set HRi.out (1 + i) 32 (by omega))
          have HSB := Aside0.mk (HBi.out.setCell (p := ⟨W5.heap.size, 1 + i, none⟩) HBW.out.size (.int .u8 32))
          have HSK := Aside0.mk (show ∀ q, q < W5.heap.size → (wr.setCell ⟨W5.heap.size, 1 + i, none⟩ (.int .u8 32)).heap[q]? = X.heap[q]? from fun q hq => (Below.heap_setCell wr ⟨W5.heap.size, 1 + i, none⟩ (.int .u8 32) q (Nat.ne_of_lt hq)).trans (HKi.out q hq))
          have HSZ := Aside0.mk (show X.heap.size ≤ (wr.setCell ⟨W5.heap.size, 1 + i, none⟩ (.int .u8 32)).heap.size from by rw [Mk.setsize]; exact HZi.out)
          clear hnx hrd hce hlr
          go_wp2_with fail
          go_roundw
          case measure => simp [intOf]; omega
          case rel => exact ⟨i + 1, by omega, by go_num, HS, HSB, HSK, HSZ⟩
        · have e45 : ((c : Int) == 45) = false := beq_eq_false_iff_ne.2 h45
          rw [if_neg h45] at hnx
          have HS := Aside0.mk (show Mk.row 5 W5.heap.size wr (dz_rep l 1 (i + 1)) from by rw [hnx, ← hce, ← hrd, dz_set_self]; exact HRi.out)
          clear hnx hrd hce hlr
          go_wp2_with fail
          go_roundw
          case measure => simp [intOf]; omega
          case rel => exact ⟨i + 1, by omega, by go_num, HS, HBi, HKi, HZi⟩
      · have n1 : decide ((i : Int) < 7) = false := decide_eq_false (by omega)
        obtain rfl : i = 7 := by omega
        have hlst : (dz_rep l 1 7).drop 1 = dz_front (l.drop 1) := dz_rep_end l 1 (by omega)
        have hrds := Mk.reads HRi.out (by omega) 1 (by omega)
        rw [hlst, hlr] at hrds
        have hcv2 : (convert 41 9 (.slice (some ⟨W5.heap.size, 1, none⟩) 25 (grownCap W5 26 0 5 - 1))).run Tryd.prog wr = .ok (.string Z) wr := by
          rw [← hZ.out]
          exact Kd.C_string (P := Tryd.prog) Tryd.underlying41 Tryd.underlying5 Tryd.underlying9 hrds
        have DY := Aside0.mk ((HKi.out _ (by have := blk_lt DW.out; exact this)).trans DX.out)
        have EY := Aside0.mk ((HKi.out _ (by have := blk_lt EW.out; exact this)).trans EX.out)
        have FY := Aside0.mk ((HKi.out _ (by have := blk_lt FW.out; exact this)).trans FX.out)
        have GY := Aside0.mk ((HKi.out _ (by have := blk_lt GW.out; exact this)).trans GX.out)
        clear hrds hlst hlr
        go_wp2_with fail
        refine (date_Parse.calls k _ h1 h2 true _ kHm.out (HL.out.below HBi.out)).mono ?_
        rintro e w9 ⟨rfl, b9⟩
        have D9 := blk_below DY.out b9
        have E9 := blk_below EY.out b9
        have F9 := blk_below FY.out b9
        have G9 := blk_below GY.out b9
        have HB9 := Aside0.mk (HBi.out.trans (b9.mono HBi.out.size))
        have c0 := blk_cell D9 0
        have c1 := blk_cell D9 1
        have d0 := blk_cell E9 0
        have d1 := blk_cell E9 1
        have f0 := blk_cell F9 0
        have f1 := blk_cell F9 1
        have g0 := blk_cell G9 0
        have g1 := blk_cell G9 1
        have ld := blk_lt D9
        have le := blk_lt E9
        have lf := blk_lt F9
        have lg := blk_lt G9
        simp only [List.getElem?_toArray, List.getElem?_cons_zero, List.getElem?_cons_succ] at c0 c1 d0 d1 f0 f1 g0 g1
        clear b9 D9 E9 F9 G9 hcv2
        go_wp2
        go_ret
        exact ⟨by first | rfl | (simp; done), below_alloc HB9.out _⟩
  · have kHm0 : date_Parse.f k (strOfNums (dz_front (l.drop 0))) = some (h1, h2, true) := by have := kHl.out; rwa [if_neg h32] at this
    have h32b : (rd l 0 == 32) = false := beq_eq_false_iff_ne.2 h32
    rw [show ((0 : Nat) : Int) = 0 from rfl] at hc0
    obtain ⟨Z, hZe⟩ : ∃ Z, strOfNums (dz_front (l.drop 0)) = Z := ⟨_, rfl⟩
    have hZ := Aside0.mk hZe
    rw [hZe] at kHm0
    have kHm := Aside0.mk kHm0
    clear kHm0 hZe
    go_wp2_with fail
    go_loopw [17] (fun v17 wr => ∃ i : Nat, i ≤ 7 ∧ v17 = .int .i64 (i : Int) ∧ Aside0 (Mk.row 5 W5.heap.size wr (dz_rep l 0 i)) ∧ Aside0 (Below w.heap.size w wr) ∧ Aside0 (∀ q, q < W5.heap.size → wr.heap[q]? = X.heap[q]?) ∧ Aside0 (X.heap.size ≤ wr.heap.size)) (fun v17 _ => 7 - (intOf v17).toNat)
    case atStart => exact ⟨0, by decide, rfl, ⟨by rw [dz_rep_0]; exact hR.out⟩, HBX, ⟨fun _ _ => rfl⟩, ⟨Nat.le_refl _⟩⟩
    case round =>
      obtain ⟨i, hi, rfl, HRi, HBi, HKi, HZi⟩ := hrel
      have hlr := dz_rep_len l 0 i
      rw [hLl] at hlr
      have n0 : decide ((i : Int) < 26) = true := decide_eq_true (by omega)
      by_cases h7 : i < 7
      · have n1 : decide ((i : Int) < 7) = true := decide_eq_true (by omega)
        obtain ⟨hc1, hf1⟩ := Mk.cell HRi.out (i) (by omega)
        have hrd := dz_rep_at l 0 i (by omega)
        have hnx := dz_rep_next l 0 i (by omega)
        rw [Nat.zero_add] at hrd hnx
        rw [hrd] at hc1
        obtain ⟨c, hce⟩ : ∃ c, rd l ((i : Nat) : Int) = c := ⟨_, rfl⟩
        rw [hce] at hc1 hnx
        have hLT := Aside0.mk (Mk.lt HRi.out)
        have k0 := Aside0.mk hnx
        by_cases h45 : c = 45
        · subst h45
          have HS := Aside0.mk (show Mk.row 5 W5.heap.size (wr.setCell ⟨W5.heap.size, i, none⟩ (.int .u8 32)) (dz_rep l 0 (i + 1)) from by rw [hnx]; exact Mk.set HRi.out (i) 32 (by omega))
          have HSB := Aside0.mk (HBi.out.setCell (p := ⟨W5.heap.size, i, none⟩) HBW.out.size (.int .u8 32))
          have HSK := Aside0.mk (show ∀ q, q < W5.heap.size → (wr.setCell ⟨W5.heap.size, i, none⟩ (.int .u8 32)).heap[q]? = X.heap[q]? from fun q hq => (Below.heap_setCell wr ⟨W5.heap.size, i, none⟩ (.int .u8 32) q (Nat.ne_of_lt hq)).trans (HKi.out q hq))
          have HSZ := Aside0.mk (show X.heap.size ≤ (wr.setCell ⟨W5.heap.size, i, none⟩ (.int .u8 32)).heap.size from by rw [Mk.setsize]; exact HZi.out)
          clear hnx hrd hce hlr
          go_wp2_with fail
          go_roundw
          case measure => simp [intOf]; omega
          case rel => exact ⟨i + 1, by omega, by go_num, HS, HSB, HSK, HSZ⟩
        · have e45 : ((c : Int) == 45) = false := beq_eq_false_iff_ne.2 h45
          rw [if_neg h45] at hnx
          have HS := Aside0.mk (show Mk.row 5 W5.heap.size wr (dz_rep l 0 (i + 1)) from by rw [hnx, ← hce, ← hrd, dz_set_self]; exact HRi.out)
          clear hnx hrd hce hlr
          go_wp2_with fail
          go_roundw
          case measure => simp [intOf]; omega
          case rel => exact ⟨i + 1, by omega, by go_num, HS, HBi, HKi, HZi⟩
      · have n1 : decide ((i : Int) < 7) = false := decide_eq_false (by omega)
        obtain rfl : i = 7 := by omega
        have hlst : (dz_rep l 0 7).drop 0 = dz_front (l.drop 0) := dz_rep_end l 0 (by omega)
        have hrds := Mk.reads HRi.out (by omega) 0 (by omega)
        rw [hlst, hlr] at hrds
        have hcv2 : (convert 41 9 (.slice (some ⟨W5.heap.size, 0, none⟩) 26 (grownCap W5 26 0 5))).run Tryd.prog wr = .ok (.string Z) wr := by
          rw [← hZ.out]
          exact Kd.C_string (P := Tryd.prog) Tryd.underlying41 Tryd.underlying5 Tryd.underlying9 hrds
        have DY := Aside0.mk ((HKi.out _ (by have := blk_lt DW.out; exact this)).trans DX.out)
        have EY := Aside0.mk ((HKi.out _ (by have := blk_lt EW.out; exact this)).trans EX.out)
        have FY := Aside0.mk ((HKi.out _ (by have := blk_lt FW.out; exact this)).trans FX.out)
        have GY := Aside0.mk ((HKi.out _ (by have := blk_lt GW.out; exact this)).trans GX.out)
        clear hrds hlst hlr
        go_wp2_with fail
        refine (date_Parse.calls k _ h1 h2 true _ kHm.out (HL.out.below HBi.out)).mono ?_
        rintro e w9 ⟨rfl, b9⟩
        have D9 := blk_below DY.out b9
        have E9 := blk_below EY.out b9
        have F9 := blk_below FY.out b9
        have G9 := blk_below GY.out b9
        have HB9 := Aside0.mk (HBi.out.trans (b9.mono HBi.out.size))
        have c0 := blk_cell D9 0
        have c1 := blk_cell D9 1
        have d0 := blk_cell E9 0
        have d1 := blk_cell E9 1
        have f0 := blk_cell F9 0
        have f1 := blk_cell F9 1
        have g0 := blk_cell G9 0
        have g1 := blk_cell G9 1
        have ld := blk_lt D9
        have le := blk_lt E9
        have lf := blk_lt F9
        have lg := blk_lt G9
        simp only [List.getElem?_toArray, List.getElem?_cons_zero, List.getElem?_cons_succ] at c0 c1 d0 d1 f0 f1 g0 g1
        clear b9 D9 E9 F9 G9 hcv2
        go_wp2
        go_ret
        exact ⟨by first | rfl | (simp; done), below_alloc HB9.out _⟩
theorem letterboxlaw11_DateZones.walk (hPure : letterboxlaw11_DateZones.Pure) (a0 a1 a2 : Int) (w : World) (w0 : (Lit.int .u32 a0).wf = true) (w1 : (Lit.int .i16 a1).wf = true) (w2 : (Lit.int .i16 a2).wf = true) (hL0 : mo_Words w) :
    Calls Tryd.prog 6 #[.int .u32 a0, .int .i16 a1, .int .i16 a2] w fun e w' => e = .returned (.bool true) ∧ Below w.heap.size w w' := by
  obtain ⟨k, h⟩ := hPure a0 a1 a2 w0 w1 w2
  exact letterboxlaw11_DateZones.calls k a0 a1 a2 true w h hL0

end Go.Proofs.YtmbiggcapakjjaaDoor.P
