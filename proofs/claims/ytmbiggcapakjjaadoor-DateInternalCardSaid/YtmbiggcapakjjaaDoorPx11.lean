-- Written by a program of this session (wip/tools/mk.sh) for this claim: it runs the kit's print with contracts of our own. Lean checks it.
import Derived.Test.YtmbiggcapakjjaaDoorPx0
import Derived.Test.YtmbiggcapakjjaaDoorZSplit
import Derived.Test.YtmbiggcapakjjaaDoorPx6
import Derived.Test.YtmbiggcapakjjaaDoorPx7
import Derived.Test.YtmbiggcapakjjaaDoorPx8
import Derived.Test.YtmbiggcapakjjaaDoorPx10
namespace Go.Proofs.YtmbiggcapakjjaaDoor.P
open Go.RowKit Go.Proofs.YtmbiggcapakjjaaDoorW.PrintWords Go.Proofs.YtmbiggcapakjjaaDoorW.PrintLast Go.Proofs.YtmbiggcapakjjaaDoorW.PrintMore
attribute [-simp] Int.tmod_tmod_of_dvd
attribute [local go_sem] max2_int min2_int max_two min_two max_three min_three max_four min_four   -- for this text's walks alone
set_option linter.unusedVariables false
set_option linter.unusedSimpArgs false

/-! ### date_Day: function 16 -/
def date_Day.f (a0_0 : Int) (a0_1 : Int) : Option (Int) := (date_floor.f (wrap64 (a0_0 + (wrap64 (a0_1 * 60)))) 86400).bind fun t244 => (some t244)
set_option maxHeartbeats 8000000 in
set_option maxRecDepth 100000 in
theorem date_Day.calls (a0_0 : Int) (a0_1 : Int) (r : Int) (w : World) (h : date_Day.f a0_0 a0_1 = some r) :
    Calls Tryd.prog 16 #[.agg #[.int .i64 a0_0, .int .i64 a0_1]] w fun e w' => e = .returned (.int .i64 r) ∧ Below w.heap.size w w' := by
  have hu24 := Tryd.underlying24
  have HB := Aside0.mk (Below.refl w.heap.size w)
  have H : ((date_floor.f (wrap64 (a0_0 + (wrap64 (a0_1 * 60)))) 86400).bind fun t244 => (some t244)) = some r := h
  clear h
  replace H := Option.bind_eq_some_iff.mp H
  obtain ⟨t244, A20, H⟩ := H
  replace H : (some t244) = some r := H
  have A2 := Aside0.mk A20
  clear A20
  obtain rfl := Option.some.inj H
  go_enter Tryd.func16, Tryd.ntmps16
  go_wp2_with (first | ((with_reducible refine gate_dst (N := 1) rfl ?_); refine box_event ?hg (N := 1) ?hd (cs := #[.int .i64 a0_0, .int .i64 a0_1]) (t := 24) ?hr ?_; (case hd => rfl); (case hg => rfl); (case hr => first | (go_simp; done) | (go_simp; rfl)); intro gb243 hg w3 hbox hb; have n0_ := Aside0.mk (below_step (by repeat (first | (with_reducible first | exact HB.out | apply below_alloc | apply pw_below_drewN | apply below_drew1) | exact HB.out)) hb); have n1_ := Aside0.mk (hbox); have n2_ := Aside0.mk ((by rw [hg]; exact (below_size (by repeat (first | (with_reducible first | exact HB.out | apply below_alloc | apply pw_below_drewN | apply below_drew1) | exact HB.out))) : w.heap.size ≤ gb243)); have n3_ := Aside0.mk ((by rw [hg]; exact (below_size (by repeat (first | (with_reducible first | exact HB.out | apply below_alloc | apply pw_below_drewN | apply below_drew1) | exact HB.out))) : w.heap.size ≤ gb243)); clear HB; have HB := n0_; have BK243 := n1_; have GW243 := n2_; have GE243 := n3_; clear n0_ n1_ n2_ n3_; clear hb hbox hg; have hcz4_0 : w3.cell? ⟨gb243, 0, none⟩ = some (.int .i64 a0_0) := (blk_cell BK243.out 0).trans rfl; have hcz4_1 : w3.cell? ⟨gb243, 1, none⟩ = some (.int .i64 a0_1) := (blk_cell BK243.out 1).trans rfl; have hfz4_0 := blk_frozen BK243.out 0; have hfz4_1 := blk_frozen BK243.out 1) | ((with_reducible refine gate_callee (f := 38) rfl ?_); refine goesL_ (some 9) rfl rfl Tryd.func38 (by kernel_rfl) rfl #[.int .i64 (wrap64 (a0_0 + (wrap64 (a0_1 * 60)))), .int .i64 86400] rfl (by (try simp only [List.map_toArray, List.map_cons, List.map_nil]); first | done | rfl | (simp only [List.length_drop, List.length_take]; rfl)) ?_; (with_reducible refine (date_floor.calls (wrap64 (a0_0 + (wrap64 (a0_1 * 60)))) 86400 t244 _ A2.out).mono ?_); rintro e w' ⟨rfl, ⟨nd, rfl⟩⟩; refine ⟨_, rfl, ?_⟩))
  go_ret
  exact ⟨by first | rfl | (simp [errW_none, errW_some] <;> rfl) | (simp [*, errW_none, errW_some] <;> rfl), by repeat (first | (with_reducible first | exact HB.out | apply below_alloc | apply pw_below_drewN | apply below_drew1 | refine below_set ?_ GE243.out) | exact HB.out)⟩

/-! ### letterboxlaw11_awake: function 7 -/
def letterboxlaw11_awake.f : Option Bool := some true
def aw_1 : ByteArray := ⟨#[84, 104, 117, 44, 32, 49, 32, 74, 97, 110, 32, 49, 57, 55, 48, 32, 48, 49, 58, 48, 48, 58, 48, 48, 32, 43, 48, 49, 48, 48]⟩
def aw_2 : ByteArray := ⟨#[34, 32, 49, 45, 74, 97, 110, 45, 49, 57, 55, 48, 32, 48, 49, 58, 48, 48, 58, 48, 48, 32, 43, 48, 49, 48, 48, 34]⟩
def aw_3 : ByteArray := ⟨#[50, 45, 106, 97, 110, 45, 49, 57, 55, 48]⟩
theorem aw_one : date_Parse.f 400 aw_1 = some (0, 60, true) := by kernel_rfl
theorem aw_two : date_ParseInternal.f 400 aw_2 = some (0, 60, true) := by kernel_rfl
theorem aw_three : date_ParseDay.f 400 aw_3 = some (1, true) := by kernel_rfl
theorem aw_said : date_Internal.f 400 0 60 = some aw_2 := by kernel_rfl
theorem aw_eq : (aw_2.toList == [34, 32, 49, 45, 74, 97, 110, 45, 49, 57, 55, 48, 32, 48, 49, 58, 48, 48, 58, 48, 48, 32, 43, 48, 49, 48, 48, 34]) = true := by kernel_rfl
theorem aw_day : date_Day.f 0 60 = some 0 := by kernel_rfl
set_option maxHeartbeats 4000000 in
theorem letterboxlaw11_awake.calls (r : Bool) (w : World) (h : letterboxlaw11_awake.f = some r) (hL0 : mo_Words w := by first | exact hL0 | exact mo_Words.below hL0 (by repeat (first | (with_reducible first | exact HB.out | apply below_alloc | apply pw_below_drewN | apply below_drew1 | refine below_set ?_ (Aside0.out (by assumption))) | exact HB.out))) :
    Calls Tryd.prog 7 #[] w fun e w' => e = .returned (.bool r) ∧ Below w.heap.size w w' := by
  obtain rfl : r = true := (Option.some.inj h).symm
  clear h
  have HL := Aside0.mk hL0
  clear hL0
  have hae := aw_eq
  go_enter Tryd.func7, Tryd.ntmps7
  go_wp2_with fail
  refine (date_Parse.calls 400 aw_1 0 60 true _ aw_one HL.out).mono ?_
  rintro e w1 ⟨rfl, b1⟩
  have HB1 := Aside0.mk b1
  clear b1
  go_wp2_with fail
  refine (date_ParseInternal.calls 400 aw_2 0 60 true _ aw_two (HL.out.below (below_alloc HB1.out _))).mono ?_
  rintro e w2 ⟨rfl, b2⟩
  have D2 := Aside0.mk (blk_below (blk_new w1 (.cells #[.int .i64 0, .int .i64 60] 24)) b2)
  have HB2 := Aside0.mk ((below_alloc HB1.out (.cells #[.int .i64 0, .int .i64 60] 24)).trans (b2.mono (below_alloc HB1.out _).size))
  clear b2
  go_wp2_with fail
  refine (date_ParseDay.calls 400 aw_3 1 true _ aw_three (HL.out.below (below_alloc HB2.out _))).mono ?_
  rintro e w3 ⟨rfl, b3⟩
  have D3 := blk_below (blk_below D2.out (below_alloc (Below.refl w2.heap.size w2) (.cells #[.int .i64 0, .int .i64 60] 24))) b3
  have E3 := blk_below (blk_new w2 (.cells #[.int .i64 0, .int .i64 60] 24)) b3
  have HB3 := Aside0.mk ((below_alloc HB2.out (.cells #[.int .i64 0, .int .i64 60] 24)).trans (b3.mono (below_alloc HB2.out _).size))
  have z0 := blk_cell D3 0
  have z1 := blk_cell D3 1
  have y0 := blk_cell E3 0
  have y1 := blk_cell E3 1
  simp only [List.getElem?_toArray, List.getElem?_cons_zero, List.getElem?_cons_succ] at z0 z1 y0 y1
  have HD3 := Aside0.mk D3
  have HE3 := Aside0.mk E3
  clear D3 E3 b3
  go_wp2_with fail
  refine (date_Internal.calls 400 0 60 aw_2 _ aw_said (HL.out.below HB3.out)).mono ?_
  rintro e w4 ⟨rfl, b4⟩
  have D4 := blk_below HD3.out b4
  have x0 := blk_cell D4 0
  have x1 := blk_cell D4 1
  simp only [List.getElem?_toArray, List.getElem?_cons_zero, List.getElem?_cons_succ] at x0 x1
  have HB4 := Aside0.mk (HB3.out.trans (b4.mono HB3.out.size))
  clear b4 D4 z0 z1 y0 y1
  go_wp2_with fail
  refine (date_Day.calls 0 60 0 _ aw_day).mono ?_
  rintro e w5 ⟨rfl, b5⟩
  have HB5 := Aside0.mk (HB4.out.trans (b5.mono HB4.out.size))
  clear b5
  go_wp2
  go_ret
  exact ⟨rfl, HB5.out⟩

/-! ### letterboxlaw11_DateDays: function 5 -/
/-- the day's text within a moment's -/
def dd_cut (s : ByteArray) : ByteArray := if bt (s.extract 1 12) 0 = 32 then (s.extract 1 12).extract 1 (s.extract 1 12).size else s.extract 1 12
/-- the law, for the answer true alone -/
def letterboxlaw11_DateDays.f (k : Nat) (a0 : Int) : Option Bool := (date_Internal.f k (86400 * (a0 % 2900000)) 0).bind fun s =>
  if 0 ≤ a0 ∧ a0 < 4294967296 ∧ s.size = 28 ∧ date_Day.f (86400 * (a0 % 2900000)) 0 = some (a0 % 2900000) ∧ date_Day.f (86400 * (a0 % 2900000) + 86399) 0 = some (a0 % 2900000) ∧ date_Day.f (86400 * (a0 % 2900000) + 86400) 0 = some (a0 % 2900000 + 1) ∧
    date_ParseDay.f k (dd_cut s) = some (a0 % 2900000, true) ∧ date_ParseDay.f k ((⟨#[34]⟩ : ByteArray) ++ dd_cut s ++ (⟨#[34]⟩ : ByteArray)) = some (a0 % 2900000, true) then some true else none
def letterboxlaw11_DateDays.Pure : Prop := ∀ (a0 : Int), (Lit.int .u32 a0).wf = true → ∃ k, letterboxlaw11_DateDays.f k a0 = some true
set_option maxHeartbeats 4000000 in
theorem letterboxlaw11_DateDays.calls (k : Nat) (a0 : Int) (r : Bool) (w : World) (h : letterboxlaw11_DateDays.f k a0 = some r) (hL0 : mo_Words w := by first | exact hL0 | exact mo_Words.below hL0 (by repeat (first | (with_reducible first | exact HB.out | apply below_alloc | apply pw_below_drewN | apply below_drew1 | refine below_set ?_ (Aside0.out (by assumption))) | exact HB.out))) :
    Calls Tryd.prog 5 #[.int .u32 a0] w fun e w' => e = .returned (.bool r) ∧ Below w.heap.size w w' := by
  obtain ⟨s, hI, h⟩ := Option.bind_eq_some_iff.mp h
  by_cases hc : 0 ≤ a0 ∧ a0 < 4294967296 ∧ s.size = 28 ∧ date_Day.f (86400 * (a0 % 2900000)) 0 = some (a0 % 2900000) ∧ date_Day.f (86400 * (a0 % 2900000) + 86399) 0 = some (a0 % 2900000) ∧ date_Day.f (86400 * (a0 % 2900000) + 86400) 0 = some (a0 % 2900000 + 1) ∧
    date_ParseDay.f k (dd_cut s) = some (a0 % 2900000, true) ∧ date_ParseDay.f k ((⟨#[34]⟩ : ByteArray) ++ dd_cut s ++ (⟨#[34]⟩ : ByteArray)) = some (a0 % 2900000, true)
  case neg => rw [if_neg hc] at h; exact absurd h (by simp)
  rw [if_pos hc] at h
  obtain rfl := Option.some.inj h
  obtain ⟨g0, g1, hsz, hD1, hD2, hD3, hP1, hP2⟩ := hc
  clear h
  have HL := Aside0.mk hL0
  clear hL0
  have htm : Int.tmod a0 2900000 = a0 % 2900000 := Int.tmod_eq_emod_of_nonneg g0
  obtain ⟨q, hq⟩ : ∃ q, a0 % 2900000 = q := ⟨_, rfl⟩
  have hqb : 0 ≤ q ∧ q < 2900000 := by omega
  rw [hq] at hI hD1 hD2 hD3 hP1 hP2 htm
  have hA := Aside0.mk hI
  have hB1 := Aside0.mk hD1
  have hB2 := Aside0.mk hD2
  have hB3 := Aside0.mk hD3
  have hC1 := Aside0.mk hP1
  have hC2 := Aside0.mk hP2
  have hQ := Aside0.mk hqb
  have e1 : wrap64 q = q := (by unfold wrap64; omega)
  have e2 : wrap64 (86400 * q) = 86400 * q := (by unfold wrap64; omega)
  have e3 : wrap64 (86400 * q + 86399) = 86400 * q + 86399 := (by unfold wrap64; omega)
  have e4 : wrap64 (86400 * q + 86399 + 1) = 86400 * q + 86400 := (by unfold wrap64; omega)
  have e5 : wrap64 (q + 1) = q + 1 := (by unfold wrap64; omega)
  clear hI hD1 hD2 hD3 hP1 hP2 hqb hq g0 g1
  go_enter Tryd.func5, Tryd.ntmps5
  go_wp2_with fail
  refine (letterboxlaw11_awake.calls true _ rfl HL.out).mono ?_
  rintro e w1 ⟨rfl, b1⟩
  have HB1 := Aside0.mk b1
  clear b1
  go_wp2_with fail
  have ha0 := below_alloc HB1.out (.cells #[.int .i64 (86400 * q), .int .i64 0] 24)
  have ha1 := below_alloc ha0 (.cells #[.int .i64 (86400 * q + 86399), .int .i64 0] 24)
  refine (date_Internal.calls k (86400 * q) 0 s _ hA.out (HL.out.below ha1)).mono ?_
  rintro e w2 ⟨rfl, b2⟩
  have D0 := blk_below (blk_new w1 (.cells #[.int .i64 (86400 * q), .int .i64 0] 24)) (below_alloc (Below.refl _ _) (.cells #[.int .i64 (86400 * q + 86399), .int .i64 0] 24))
  have D2 := Aside0.mk (blk_below D0 b2)
  have hz : (w1.alloc (.cells #[.int .i64 (86400 * q), .int .i64 0] 24)).heap.size = w1.heap.size + 1 := by simp
  have E0 := blk_new (w1.alloc (.cells #[.int .i64 (86400 * q), .int .i64 0] 24)) (.cells #[.int .i64 (86400 * q + 86399), .int .i64 0] 24)
  rw [hz] at E0
  have E2 := Aside0.mk (blk_below E0 b2)
  have HB2 := Aside0.mk (ha1.trans (b2.mono ha1.size))
  clear b2 D0 E0 ha0 ha1 hz
  have t0 := blk_cell D2.out 0
  have t1 := blk_cell D2.out 1
  simp only [List.getElem?_toArray, List.getElem?_cons_zero, List.getElem?_cons_succ] at t0 t1
  have hs28 : ((s.size : Int) == 28) = true := by rw [hsz]; rfl
  have hs28b : ((s.size : Int) != 28) = false := by rw [hsz]; rfl
  go_wp2_with fail
  refine (date_Day.calls (86400 * q) 0 q _ hB1.out).mono ?_
  rintro e w3 ⟨rfl, b3⟩
  have E3 := Aside0.mk (blk_below E2.out b3)
  have HB3 := Aside0.mk (HB2.out.trans (b3.mono HB2.out.size))
  clear b3 t0 t1
  have u0 := blk_cell E3.out 0
  have u1 := blk_cell E3.out 1
  simp only [List.getElem?_toArray, List.getElem?_cons_zero, List.getElem?_cons_succ] at u0 u1
  go_wp2_with fail
  refine (date_Day.calls (86400 * q + 86399) 0 q _ hB2.out).mono ?_
  rintro e w4 ⟨rfl, b4⟩
  have E4 := Aside0.mk (blk_below E3.out b4)
  have HB4 := Aside0.mk (HB3.out.trans (b4.mono HB3.out.size))
  clear b4 u0 u1
  have u0 := blk_cell E4.out 0
  have u1 := blk_cell E4.out 1
  simp only [List.getElem?_toArray, List.getElem?_cons_zero, List.getElem?_cons_succ] at u0 u1
  go_wp2_with fail
  refine (date_Day.calls (86400 * q + 86400) 0 (q + 1) _ hB3.out).mono ?_
  rintro e w5 ⟨rfl, b5⟩
  have HB5 := Aside0.mk (HB4.out.trans (b5.mono HB4.out.size))
  clear b5 u0 u1
  have hc1 := hC1.out
  have hc2 := hC2.out
  unfold dd_cut at hc1 hc2
  have hlt : 0 < (s.extract 1 12).size := by rw [ByteArray.size_extract, hsz]; decide
  have h11 : (s.extract 1 12).size = 11 := by rw [ByteArray.size_extract, hsz]; rfl
  have hbt : bt (s.extract 1 12) 0 = (((s.extract 1 12)[0]'hlt).toNat : Int) := dif_pos hlt
  rw [hbt, h11] at hc1 hc2
  by_cases hx : (((s.extract 1 12)[0]'hlt).toNat : Int) = 32
  · rw [if_pos hx] at hc1 hc2
    have K1 := Aside0.mk hc1
    have K2 := Aside0.mk hc2
    have hxb : ((((s.extract 1 12)[0]'hlt).toNat : Int) == 32) = true := beq_iff_eq.2 hx
    clear hc1 hc2
    go_wp2_with fail
    refine (date_ParseDay.calls k _ q true _ K1.out (HL.out.below HB5.out)).mono ?_
    rintro e w6 ⟨rfl, b6⟩
    have HB6 := Aside0.mk (HB5.out.trans (b6.mono HB5.out.size))
    clear b6
    go_wp2_with fail
    refine (date_ParseDay.calls k _ q true _ K2.out (HL.out.below HB6.out)).mono ?_
    rintro e w7 ⟨rfl, b7⟩
    have HB7 := Aside0.mk (HB6.out.trans (b7.mono HB6.out.size))
    clear b7
    go_wp2
    go_ret
    exact ⟨by first | rfl | (simp; done), HB7.out⟩
  · rw [if_neg hx] at hc1 hc2
    have K1 := Aside0.mk hc1
    have K2 := Aside0.mk hc2
    have hxb : ((((s.extract 1 12)[0]'hlt).toNat : Int) == 32) = false := beq_eq_false_iff_ne.2 hx
    clear hc1 hc2
    go_wp2_with fail
    refine (date_ParseDay.calls k _ q true _ K1.out (HL.out.below HB5.out)).mono ?_
    rintro e w6 ⟨rfl, b6⟩
    have HB6 := Aside0.mk (HB5.out.trans (b6.mono HB5.out.size))
    clear b6
    go_wp2_with fail
    refine (date_ParseDay.calls k _ q true _ K2.out (HL.out.below HB6.out)).mono ?_
    rintro e w7 ⟨rfl, b7⟩
    have HB7 := Aside0.mk (HB6.out.trans (b7.mono HB6.out.size))
    clear b7
    go_wp2
    go_ret
    exact ⟨by first | rfl | (simp; done), HB7.out⟩
theorem letterboxlaw11_DateDays.walk (hPure : letterboxlaw11_DateDays.Pure) (a0 : Int) (w : World) (w0 : (Lit.int .u32 a0).wf = true) (hL0 : mo_Words w) :
    Calls Tryd.prog 5 #[.int .u32 a0] w fun e w' => e = .returned (.bool true) ∧ Below w.heap.size w w' := by
  obtain ⟨k, h⟩ := hPure a0 w0
  exact letterboxlaw11_DateDays.calls k a0 true w h hL0

/-! ### letterboxref11_leap: function 55 -/
def letterboxref11_leap.f (a0 : Int) : Option (Bool) := if (Int.tmod a0 400) = 0 then (some true) else (if (Int.tmod a0 4) = 0 then (some ((Int.tmod a0 100) != 0)) else (some false))
set_option maxHeartbeats 8000000 in
set_option maxRecDepth 100000 in
theorem letterboxref11_leap.calls (a0 : Int) (r : Bool) (w : World) (h : letterboxref11_leap.f a0 = some r) :
    Calls Tryd.prog 55 #[.int .i64 a0] w fun e w' => e = .returned (.bool r) ∧ Drawn0 w w' := by
  have H : (if (Int.tmod a0 400) = 0 then (some true) else (if (Int.tmod a0 4) = 0 then (some ((Int.tmod a0 100) != 0)) else (some false))) = some r := h
  clear h
  by_cases c2 : (Int.tmod a0 400) = 0
  · rw [if_pos c2] at H
    have c2b0 : ((Int.tmod a0 400) == 0) = true := beq_iff_eq.mpr c2
    have c2b1 : ((Int.tmod a0 400) != 0) = false := bne_eq_false_iff_eq.mpr c2
    clear c2
    obtain rfl := Option.some.inj H
    go_enter Tryd.func55, Tryd.ntmps55
    go_wp2
    go_ret
    exact ⟨by first | rfl | (simp; done) | (simp [*]; done), by repeat (first | exact Drawn0.refl _ | apply Drawn0.step)⟩
  · rw [if_neg c2] at H
    have c2b0 : ((Int.tmod a0 400) == 0) = false := beq_eq_false_iff_ne.mpr c2
    have c2b1 : ((Int.tmod a0 400) != 0) = true := bne_iff_ne.mpr c2
    by_cases c3 : (Int.tmod a0 4) = 0
    · rw [if_pos c3] at H
      have c3b0 : ((Int.tmod a0 4) == 0) = true := beq_iff_eq.mpr c3
      have c3b1 : ((Int.tmod a0 4) != 0) = false := bne_eq_false_iff_eq.mpr c3
      clear c3
      obtain rfl := Option.some.inj H
      go_enter Tryd.func55, Tryd.ntmps55
      go_wp2
      go_ret
      exact ⟨by first | rfl | (simp; done) | (simp [*]; done), by repeat (first | exact Drawn0.refl _ | apply Drawn0.step)⟩
    · rw [if_neg c3] at H
      have c3b0 : ((Int.tmod a0 4) == 0) = false := beq_eq_false_iff_ne.mpr c3
      have c3b1 : ((Int.tmod a0 4) != 0) = true := bne_iff_ne.mpr c3
      obtain rfl := Option.some.inj H
      go_enter Tryd.func55, Tryd.ntmps55
      go_wp2
      go_ret
      exact ⟨by first | rfl | (simp; done) | (simp [*]; done), by repeat (first | exact Drawn0.refl _ | apply Drawn0.step)⟩

/-! ### letterboxref11_year: function 42 -/
def letterboxref11_year.f (a0 : Int) : Option (Int) := (letterboxref11_leap.f a0).bind fun t245 => (if t245 = true then (some 366) else (some 365))
set_option maxHeartbeats 8000000 in
set_option maxRecDepth 100000 in
theorem letterboxref11_year.calls (a0 : Int) (r : Int) (w : World) (h : letterboxref11_year.f a0 = some r) :
    Calls Tryd.prog 42 #[.int .i64 a0] w fun e w' => e = .returned (.int .i64 r) ∧ Drawn0 w w' := by
  have H : ((letterboxref11_leap.f a0).bind fun t245 => (if t245 = true then (some 366) else (some 365))) = some r := h
  clear h
  replace H := Option.bind_eq_some_iff.mp H
  obtain ⟨t245, A20, H⟩ := H
  replace H : (if t245 = true then (some 366) else (some 365)) = some r := H
  have A2 := Aside0.mk A20
  clear A20
  by_cases c3 : t245 = true
  · subst c3
    have H1 : (some 366) = some r := by rw [if_pos rfl] at H; exact H
    clear H
    have H := H1
    clear H1
    obtain rfl := Option.some.inj H
    go_enter Tryd.func42, Tryd.ntmps42
    go_wp2_with (first | ((with_reducible refine gate_callee (f := 55) rfl ?_); refine goesL_ (some 4) rfl rfl Tryd.func55 (by kernel_rfl) rfl #[.int .i64 a0] rfl (by (try simp only [List.map_toArray, List.map_cons, List.map_nil]); first | done | rfl | (simp only [List.length_drop, List.length_take]; rfl)) ?_; (with_reducible refine (letterboxref11_leap.calls a0 true _ A2.out).mono ?_); rintro e w' ⟨rfl, ⟨nd, rfl⟩⟩; refine ⟨_, rfl, ?_⟩))
    go_ret
    exact ⟨by first | rfl | (simp; done) | (simp [*]; done), by repeat (first | exact Drawn0.refl _ | apply Drawn0.step)⟩
  · replace c3 := Bool.eq_false_iff.mpr c3
    subst c3
    have H1 : (some 365) = some r := by rw [if_neg (show ¬ (false = true) by decide)] at H; exact H
    clear H
    have H := H1
    clear H1
    obtain rfl := Option.some.inj H
    go_enter Tryd.func42, Tryd.ntmps42
    go_wp2_with (first | ((with_reducible refine gate_callee (f := 55) rfl ?_); refine goesL_ (some 4) rfl rfl Tryd.func55 (by kernel_rfl) rfl #[.int .i64 a0] rfl (by (try simp only [List.map_toArray, List.map_cons, List.map_nil]); first | done | rfl | (simp only [List.length_drop, List.length_take]; rfl)) ?_; (with_reducible refine (letterboxref11_leap.calls a0 false _ A2.out).mono ?_); rintro e w' ⟨rfl, ⟨nd, rfl⟩⟩; refine ⟨_, rfl, ?_⟩))
    go_ret
    exact ⟨by first | rfl | (simp; done) | (simp [*]; done), by repeat (first | exact Drawn0.refl _ | apply Drawn0.step)⟩

/-! ### letterboxref11_days: function 43 -/
def letterboxref11_days.f (a0 : Int) (a1 : Int) : Option (Int) := if a1 = 2 then ((letterboxref11_leap.f a0).bind fun t246 => (if t246 = true then (some 29) else (some 28))) else (if a1 = 4 then (some 30) else (if a1 = 6 then (some 30) else (if a1 = 9 then (some 30) else (if a1 = 11 then (some 30) else (some 31)))))
set_option maxHeartbeats 8000000 in
set_option maxRecDepth 100000 in
theorem letterboxref11_days.calls (a0 : Int) (a1 : Int) (r : Int) (w : World) (h : letterboxref11_days.f a0 a1 = some r) :
    Calls Tryd.prog 43 #[.int .i64 a0, .int .i64 a1] w fun e w' => e = .returned (.int .i64 r) ∧ Drawn0 w w' := by
  have H : (if a1 = 2 then ((letterboxref11_leap.f a0).bind fun t246 => (if t246 = true then (some 29) else (some 28))) else (if a1 = 4 then (some 30) else (if a1 = 6 then (some 30) else (if a1 = 9 then (some 30) else (if a1 = 11 then (some 30) else (some 31)))))) = some r := h
  clear h
  by_cases c3 : a1 = 2
  · rw [if_pos c3] at H
    have c3b0 : (a1 == 2) = true := beq_iff_eq.mpr c3
    have c3b1 : (a1 != 2) = false := bne_eq_false_iff_eq.mpr c3
    clear c3
    replace H := Option.bind_eq_some_iff.mp H
    obtain ⟨t246, A40, H⟩ := H
    replace H : (if t246 = true then (some 29) else (some 28)) = some r := H
    have A4 := Aside0.mk A40
    clear A40
    by_cases c5 : t246 = true
    · subst c5
      have H1 : (some 29) = some r := by rw [if_pos rfl] at H; exact H
      clear H
      have H := H1
      clear H1
      obtain rfl := Option.some.inj H
      go_enter Tryd.func43, Tryd.ntmps43
      go_wp2_with (first | ((with_reducible refine gate_callee (f := 55) rfl ?_); refine goesL_ (some 8) rfl rfl Tryd.func55 (by kernel_rfl) rfl #[.int .i64 a0] rfl (by (try simp only [List.map_toArray, List.map_cons, List.map_nil]); first | done | rfl | (simp only [List.length_drop, List.length_take]; rfl)) ?_; (with_reducible refine (letterboxref11_leap.calls a0 true _ A4.out).mono ?_); rintro e w' ⟨rfl, ⟨nd, rfl⟩⟩; refine ⟨_, rfl, ?_⟩))
      go_ret
      exact ⟨by first | rfl | (simp; done) | (simp [*]; done), by repeat (first | exact Drawn0.refl _ | apply Drawn0.step)⟩
    · replace c5 := Bool.eq_false_iff.mpr c5
      subst c5
      have H1 : (some 28) = some r := by rw [if_neg (show ¬ (false = true) by decide)] at H; exact H
      clear H
      have H := H1
      clear H1
      obtain rfl := Option.some.inj H
      go_enter Tryd.func43, Tryd.ntmps43
      go_wp2_with (first | ((with_reducible refine gate_callee (f := 55) rfl ?_); refine goesL_ (some 8) rfl rfl Tryd.func55 (by kernel_rfl) rfl #[.int .i64 a0] rfl (by (try simp only [List.map_toArray, List.map_cons, List.map_nil]); first | done | rfl | (simp only [List.length_drop, List.length_take]; rfl)) ?_; (with_reducible refine (letterboxref11_leap.calls a0 false _ A4.out).mono ?_); rintro e w' ⟨rfl, ⟨nd, rfl⟩⟩; refine ⟨_, rfl, ?_⟩))
      go_ret
      exact ⟨by first | rfl | (simp; done) | (simp [*]; done), by repeat (first | exact Drawn0.refl _ | apply Drawn0.step)⟩
  · rw [if_neg c3] at H
    have c3b0 : (a1 == 2) = false := beq_eq_false_iff_ne.mpr c3
    have c3b1 : (a1 != 2) = true := bne_iff_ne.mpr c3
    by_cases c6 : a1 = 4
    · rw [if_pos c6] at H
      have c6b0 : (a1 == 4) = true := beq_iff_eq.mpr c6
      have c6b1 : (a1 != 4) = false := bne_eq_false_iff_eq.mpr c6
      clear c6
      obtain rfl := Option.some.inj H
      go_enter Tryd.func43, Tryd.ntmps43
      go_wp2
      go_ret
      exact ⟨by first | rfl | (simp; done) | (simp [*]; done), by repeat (first | exact Drawn0.refl _ | apply Drawn0.step)⟩
    · rw [if_neg c6] at H
      have c6b0 : (a1 == 4) = false := beq_eq_false_iff_ne.mpr c6
      have c6b1 : (a1 != 4) = true := bne_iff_ne.mpr c6
      by_cases c7 : a1 = 6
      · rw [if_pos c7] at H
        have c7b0 : (a1 == 6) = true := beq_iff_eq.mpr c7
        have c7b1 : (a1 != 6) = false := bne_eq_false_iff_eq.mpr c7
        clear c7
        obtain rfl := Option.some.inj H
        go_enter Tryd.func43, Tryd.ntmps43
        go_wp2
        go_ret
        exact ⟨by first | rfl | (simp; done) | (simp [*]; done), by repeat (first | exact Drawn0.refl _ | apply Drawn0.step)⟩
      · rw [if_neg c7] at H
        have c7b0 : (a1 == 6) = false := beq_eq_false_iff_ne.mpr c7
        have c7b1 : (a1 != 6) = true := bne_iff_ne.mpr c7
        by_cases c8 : a1 = 9
        · rw [if_pos c8] at H
          have c8b0 : (a1 == 9) = true := beq_iff_eq.mpr c8
          have c8b1 : (a1 != 9) = false := bne_eq_false_iff_eq.mpr c8
          clear c8
          obtain rfl := Option.some.inj H
          go_enter Tryd.func43, Tryd.ntmps43
          go_wp2
          go_ret
          exact ⟨by first | rfl | (simp; done) | (simp [*]; done), by repeat (first | exact Drawn0.refl _ | apply Drawn0.step)⟩
        · rw [if_neg c8] at H
          have c8b0 : (a1 == 9) = false := beq_eq_false_iff_ne.mpr c8
          have c8b1 : (a1 != 9) = true := bne_iff_ne.mpr c8
          by_cases c9 : a1 = 11
          · rw [if_pos c9] at H
            have c9b0 : (a1 == 11) = true := beq_iff_eq.mpr c9
            have c9b1 : (a1 != 11) = false := bne_eq_false_iff_eq.mpr c9
            clear c9
            obtain rfl := Option.some.inj H
            go_enter Tryd.func43, Tryd.ntmps43
            go_wp2
            go_ret
            exact ⟨by first | rfl | (simp; done) | (simp [*]; done), by repeat (first | exact Drawn0.refl _ | apply Drawn0.step)⟩
          · rw [if_neg c9] at H
            have c9b0 : (a1 == 11) = false := beq_eq_false_iff_ne.mpr c9
            have c9b1 : (a1 != 11) = true := bne_iff_ne.mpr c9
            obtain rfl := Option.some.inj H
            go_enter Tryd.func43, Tryd.ntmps43
            go_wp2
            go_ret
            exact ⟨by first | rfl | (simp; done) | (simp [*]; done), by repeat (first | exact Drawn0.refl _ | apply Drawn0.step)⟩

/-! ### letterboxref11_two: function 44 -/
def letterboxref11_two.f (a0 : Int) : Option (ByteArray) := some (strOfNums (([(wrap64 (48 + (wrap64 (Int.tdiv a0 10)))) % 256, (wrap64 (48 + (Int.tmod a0 10))) % 256] : List Int)))
set_option maxHeartbeats 8000000 in
set_option maxRecDepth 100000 in
theorem letterboxref11_two.calls (a0 : Int) (r : ByteArray) (w : World) (h : letterboxref11_two.f a0 = some r) :
    Calls Tryd.prog 44 #[.int .i64 a0] w fun e w' => e = .returned (.string r) ∧ Below w.heap.size w w' := by
  have HB := Aside0.mk (Below.refl w.heap.size w)
  have H : (some (strOfNums (([(wrap64 (48 + (wrap64 (Int.tdiv a0 10)))) % 256, (wrap64 (48 + (Int.tmod a0 10))) % 256] : List Int)))) = some r := h
  clear h
  obtain ⟨y247, hy247⟩ : ∃ y_ : List Int, y_ = (([(wrap64 (48 + (wrap64 (Int.tdiv a0 10)))) % 256, (wrap64 (48 + (Int.tmod a0 10))) % 256] : List Int)) := ⟨_, rfl⟩
  replace H : (some (strOfNums y247)) = some r := by first | (rw [hy247]; with_reducible exact H) | (have H2_ := (Option.bind_some _ _).symm.trans H; rw [hy247]; with_reducible exact H2_) | (have H2_ := (Option.bind_some _ _).symm.trans H; with_reducible exact H2_) | with_reducible exact H | (rw [hy247]; exact H) | exact H
  have Ny247 := Aside0.mk hy247
  clear hy247
  obtain rfl := Option.some.inj H
  go_enter Tryd.func44, Tryd.ntmps44
  go_wp2_with (first | ((with_reducible refine gate_dst (N := 11) rfl ?_); refine Kd.R_lit (Kd.int .u8) _ 5 ?hg (N := 11) ?hd (xs := ([(wrap64 (48 + (wrap64 (Int.tdiv a0 10)))) % 256, (wrap64 (48 + (Int.tmod a0 10))) % 256] : List Int)) (inner := [.int .u8 ((wrap64 (48 + (wrap64 (Int.tdiv a0 10)))) % 256), .int .u8 ((wrap64 (48 + (Int.tmod a0 10))) % 256)]) (ok := fun _ => True) (okp := fun _ => True) ?hr ?hp (fun _ hk => hk) trivial (Below.refl _ _) (Nat.le_refl _) (by simp) ?_; (case hd => rfl); (case hg => rfl); (case hr => first | (go_simp; done) | (go_simp; rfl)); (case hp => exact (Reps.one (show Kd.M (Kd.int .u8) _ _ _ ((wrap64 (48 + (wrap64 (Int.tdiv a0 10)))) % 256) [.int .u8 ((wrap64 (48 + (wrap64 (Int.tdiv a0 10)))) % 256)] from rfl) (Reps.one (show Kd.M (Kd.int .u8) _ _ _ ((wrap64 (48 + (Int.tmod a0 10))) % 256) [.int .u8 ((wrap64 (48 + (Int.tmod a0 10))) % 256)] from rfl) (Reps.none _ _)))); intro v248 w2 ho3 hb hg_ hnew_; clear hg_ hnew_; (first | rw [← Ny247.out] at ho3 | (simp only [Int.reduceToNat] at ho3; rw [← Ny247.out] at ho3)); have n0_ := Aside0.mk (Kd.R_lower ho3 (below_size (by repeat (first | (with_reducible first | exact HB.out | apply below_alloc | apply pw_below_drewN | apply below_drew1) | exact HB.out)))); have n1_ := Aside0.mk (below_step (by repeat (first | (with_reducible first | exact HB.out | apply below_alloc | apply pw_below_drewN | apply below_drew1) | exact HB.out)) hb); clear HB; have HO249 := n0_; have HB := n1_; clear n0_ n1_; clear hb ho3; have hcv4 := fun n_ : Nat => own_string (P := Tryd.prog) Tryd.underlying41 Tryd.underlying5 Tryd.underlying9 (Kd.own_of_R (Kd.R_drewN HO249.out n_)); have hcv5 := fun m_ n_ : Nat => own_string (P := Tryd.prog) Tryd.underlying41 Tryd.underlying5 Tryd.underlying9 (Kd.own_of_R (Kd.R_drewN (Kd.R_drewN HO249.out m_) n_)); have hcv6 := own_string (P := Tryd.prog) Tryd.underlying41 Tryd.underlying5 Tryd.underlying9 (Kd.own_of_R HO249.out)))
  go_ret
  exact ⟨by first | rfl | (simp [errW_none, errW_some] <;> rfl) | (simp [*, errW_none, errW_some] <;> rfl), by repeat (first | (with_reducible first | exact HB.out | apply below_alloc | apply pw_below_drewN | apply below_drew1) | exact HB.out)⟩

/-! ### letterboxref11_name: function 45 -/
def letterboxref11_name.f (a0 : Int) : Option (ByteArray) := if 0 ≤ (wrap64 ((wrap64 (3 * a0)) - 3)) then (if (wrap64 ((wrap64 (3 * a0)) - 3)) ≤ (wrap64 (3 * a0)) then (if (wrap64 (3 * a0)) ≤ 36 then (some ((⟨#[74, 97, 110, 70, 101, 98, 77, 97, 114, 65, 112, 114, 77, 97, 121, 74, 117, 110, 74, 117, 108, 65, 117, 103, 83, 101, 112, 79, 99, 116, 78, 111, 118, 68, 101, 99]⟩ : ByteArray).extract ((wrap64 ((wrap64 (3 * a0)) - 3)) : Int).toNat ((wrap64 (3 * a0)) : Int).toNat)) else (none)) else (none)) else (none)
set_option maxHeartbeats 8000000 in
set_option maxRecDepth 100000 in
theorem letterboxref11_name.calls (a0 : Int) (r : ByteArray) (w : World) (h : letterboxref11_name.f a0 = some r) :
    Calls Tryd.prog 45 #[.int .i64 a0] w fun e w' => e = .returned (.string r) ∧ Drawn0 w w' := by
  have H : (if 0 ≤ (wrap64 ((wrap64 (3 * a0)) - 3)) then (if (wrap64 ((wrap64 (3 * a0)) - 3)) ≤ (wrap64 (3 * a0)) then (if (wrap64 (3 * a0)) ≤ 36 then (some ((⟨#[74, 97, 110, 70, 101, 98, 77, 97, 114, 65, 112, 114, 77, 97, 121, 74, 117, 110, 74, 117, 108, 65, 117, 103, 83, 101, 112, 79, 99, 116, 78, 111, 118, 68, 101, 99]⟩ : ByteArray).extract ((wrap64 ((wrap64 (3 * a0)) - 3)) : Int).toNat ((wrap64 (3 * a0)) : Int).toNat)) else (none)) else (none)) else (none)) = some r := h
  clear h
  obtain ⟨ji2, hji2⟩ : ∃ j_ : Int, (wrap64 ((wrap64 (3 * a0)) - 3)) = j_ := ⟨_, rfl⟩
  replace H : (if 0 ≤ (ji2) then (if (ji2) ≤ (wrap64 (3 * a0)) then (if (wrap64 (3 * a0)) ≤ 36 then (some ((⟨#[74, 97, 110, 70, 101, 98, 77, 97, 114, 65, 112, 114, 77, 97, 121, 74, 117, 110, 74, 117, 108, 65, 117, 103, 83, 101, 112, 79, 99, 116, 78, 111, 118, 68, 101, 99]⟩ : ByteArray).extract ((ji2) : Int).toNat ((wrap64 (3 * a0)) : Int).toNat)) else (none)) else (none)) else (none)) = some r := by first | (rw [hji2] at H; exact H) | (simp only [hji2] at H ⊢; exact H)
  have hji2w : (IntKind.i64.wrap ((wrap64 (3 * a0)) - 3)) = ji2 := (i64_w _).trans hji2
  by_cases c3 : 0 ≤ (ji2)
  · rw [if_pos c3] at H
    have c3b0 := eq_true c3
    have c3b1 : decide (0 ≤ (ji2)) = true := decide_eq_true c3
    clear c3
    by_cases c4 : (ji2) ≤ (wrap64 (3 * a0))
    · rw [if_pos c4] at H
      have c4b0 := eq_true c4
      have c4b1 : decide ((ji2) ≤ (wrap64 (3 * a0))) = true := decide_eq_true c4
      clear c4
      by_cases c5 : (wrap64 (3 * a0)) ≤ 36
      · rw [if_pos c5] at H
        have c5b0 := eq_true c5
        have c5b1 : decide ((wrap64 (3 * a0)) ≤ 36) = true := decide_eq_true c5
        clear c5
        obtain rfl := Option.some.inj H
        go_enter Tryd.func45, Tryd.ntmps45
        go_wp2
        go_ret
        exact ⟨by first | rfl | (simp; done) | (simp only [← hji2] <;> (first | rfl | simp)) | (simp [*]; done), by repeat (first | exact Drawn0.refl _ | apply Drawn0.step)⟩
      · rw [if_neg c5] at H
        exact absurd H (by simp)
    · rw [if_neg c4] at H
      exact absurd H (by simp)
  · rw [if_neg c3] at H
    exact absurd H (by simp)

end Go.Proofs.YtmbiggcapakjjaaDoor.P
