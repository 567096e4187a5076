-- Written by a program of this session (wip/tools/mk.sh) for this claim: it runs the kit's print with contracts of our own. Lean checks it.
import Derived.Test.YtmbiggcapakjjaaDoorPx0
import Derived.Test.YtmbiggcapakjjaaDoorWRepsOne
import Derived.Test.YtmbiggcapakjjaaDoorWTab
import Derived.Test.YtmbiggcapakjjaaDoorZSplit
import Derived.Test.YtmbiggcapakjjaaDoorPx10
import Derived.Test.YtmbiggcapakjjaaDoorPx13
namespace Go.Proofs.YtmbiggcapakjjaaDoor.P
open Go.RowKit Go.Proofs.YtmbiggcapakjjaaDoorW.PrintWords Go.Proofs.YtmbiggcapakjjaaDoorW.PrintLast Go.Proofs.YtmbiggcapakjjaaDoorW.PrintMore
attribute [-simp] Int.tmod_tmod_of_dvd
attribute [local go_sem] max2_int min2_int max_two min_two max_three min_three max_four min_four   -- for this text's walks alone
set_option linter.unusedVariables false
set_option linter.unusedSimpArgs false

/-! ### letterboxref01_Split: function 37 -/
def letterboxref01_Split.l0 : Nat → ByteArray → Int → List ByteArray → ByteArray → Int → Option (List ByteArray)
 | 0, _, _, _, _, _ => none
 | k + 1, x0, x1, x5, x6, x7 => if x7 < (x0.size : Int) then (if 0 ≤ x7 then (if (bt x0 x7) = x1 then (if x5.length < 8796093022208 then (letterboxref01_Split.l0 k x0 x1 (x5 ++ [x6]) (⟨#[]⟩ : ByteArray) (wrap64 (x7 + 1))) else (none)) else (if x7 ≤ (wrap64 (x7 + 1)) then (if (wrap64 (x7 + 1)) ≤ (x0.size : Int) then (if x6.size + (x0.extract (x7 : Int).toNat ((wrap64 (x7 + 1)) : Int).toNat).size ≤ 9223372036854775807 then (letterboxref01_Split.l0 k x0 x1 x5 (x6 ++ (x0.extract (x7 : Int).toNat ((wrap64 (x7 + 1)) : Int).toNat)) (wrap64 (x7 + 1))) else (none)) else (none)) else (none))) else (none)) else (if x5.length < 8796093022208 then (some (x5 ++ [x6])) else (none))
def letterboxref01_Split.f (k : Nat) (a0 : ByteArray) (a1 : Int) : Option (List ByteArray) := letterboxref01_Split.l0 k a0 a1 ([] : List ByteArray) (⟨#[]⟩ : ByteArray) 0
theorem letterboxref01_Split.mono_l : ∀ k, (∀ y0 y1 y2 y3 y4, LeO (letterboxref01_Split.l0 k y0 y1 y2 y3 y4) (letterboxref01_Split.l0 (k + 1) y0 y1 y2 y3 y4))
 | 0 => fun _ _ _ _ _ r h => by simp [letterboxref01_Split.l0] at h
 | k + 1 => by
  have ih0 := letterboxref01_Split.mono_l k
  ·intro y0 y1 y2 y3 y4
   unfold letterboxref01_Split.l0
   repeat' first
   | (with_reducible exact ih0 _ _ _ _ _)
   | (with_reducible exact LeO.refl _)
   | (with_reducible exact LeO.none _)
   | (with_reducible refine LeO.ite ?_ ?_)
   | (with_reducible refine LeO.bind ?_ (fun _ => ?_))
   | exact ih0 _ _ _ _ _
   | exact LeO.none _
   | refine LeO.ite ?_ ?_
   | refine LeO.bind ?_ (fun _ => ?_)
theorem letterboxref01_Split.mono : ∀ a0 a1 k, LeO (letterboxref01_Split.f k a0 a1) (letterboxref01_Split.f (k + 1) a0 a1) := by
 intro a0 a1 k
 have ih0 := letterboxref01_Split.mono_l k
 unfold letterboxref01_Split.f
 repeat' first
   | (with_reducible exact ih0 _ _ _ _ _)
   | (with_reducible exact LeO.refl _)
   | (with_reducible exact LeO.none _)
   | (with_reducible refine LeO.ite ?_ ?_)
   | (with_reducible refine LeO.bind ?_ (fun _ => ?_))
   | exact ih0 _ _ _ _ _
   | exact LeO.none _
   | refine LeO.ite ?_ ?_
   | refine LeO.bind ?_ (fun _ => ?_)
set_option maxHeartbeats 8000000 in
set_option maxRecDepth 100000 in
theorem letterboxref01_Split.calls (k : Nat) (a0 : ByteArray) (a1 : Int) (r : List ByteArray) (w : World) (h : letterboxref01_Split.f k a0 a1 = some r) :
  Calls Tryd.prog 37 #[.string a0, .int .u8 a1] w fun e w' => ∃ v0_ : Value, e = .returned (v0_) ∧ Kd.R Kd.string 9 w' w.heap.size (fun _ => True) v0_ r ∧ Below w.heap.size w w' := by
 have HB := Aside0.mk (Below.refl w.heap.size w)
 have H : (letterboxref01_Split.l0 k a0 a1 ([] : List ByteArray) (⟨#[]⟩ : ByteArray) 0) = some r := h
 clear h
 have H' := Aside0.mk H
 clear H
 go_enter Tryd.func37, Tryd.ntmps37
 go_wp2
 go_loopg [5, 6, 7] k (fun kq v5 v6 v7 w' => ∃ (x5_1 : List ByteArray) (x6_1 : ByteArray) (x7_1 : Int), v6 = .string x6_1 ∧ v7 = .int .i64 x7_1 ∧ Aside0 (letterboxref01_Split.l0 kq a0 a1 x5_1 x6_1 x7_1 = some r) ∧ Aside0 (kq ≤ k) ∧ Aside0 (Kd.R Kd.string 9 w' w.heap.size (fun _ => True) v5 x5_1) ∧ Aside0 (Below w.heap.size w w'))
 case atStart => exact ⟨(([] : List ByteArray)), ((⟨#[]⟩ : ByteArray)), (0), qr_, qr_, H', ⟨Nat.le_refl _⟩, ⟨qn_⟩, ⟨qb_ HB.out⟩⟩
 case round =>
  clear H'
  obtain ⟨x5_1, x6_1, x7_1, rfl, rfl, HA, HK1, HO_5, HB⟩ := hrel
  cases gk with
  | zero => exact absurd HA.out (by simp [letterboxref01_Split.l0])
  | succ k1 =>
   have H := HA.out
   clear HA
   simp only [letterboxref01_Split.l0] at H
   by_cases c3 : x7_1 < (a0.size : Int)
   ·rw [if_pos c3] at H
    have c3b0 : decide (x7_1 < (a0.size : Int)) = true := decide_eq_true c3
    clear c3
    by_cases c4 : 0 ≤ x7_1
    ·rw [if_pos c4] at H
     have c4b0 : decide (0 ≤ x7_1) = true := decide_eq_true c4
     clear c4
     by_cases c6 : (bt a0 x7_1) = a1
     ·rw [if_pos c6] at H
      have c6b0 : ((bt a0 x7_1) == a1) = true := beq_iff_eq.mpr c6
      have c6b1 : ((bt a0 x7_1) != a1) = false := bne_eq_false_iff_eq.mpr c6
      clear c6
      by_cases c7 : x5_1.length < 8796093022208
      ·rw [if_pos c7] at H
       have LMc7 := Aside0.mk c7
       clear c7
       obtain ⟨y312, hy312⟩ : ∃ y_ : List ByteArray, y_ = (x5_1 ++ [x6_1]) := ⟨_, rfl⟩
       replace H : (letterboxref01_Split.l0 k1 a0 a1 y312 (⟨#[]⟩ : ByteArray) (wrap64 (x7_1 + 1))) = some r := by first | (rw [hy312]; with_reducible exact H) | (have H2_ := (Option.bind_some _ _).symm.trans H; rw [hy312]; with_reducible exact H2_) | (have H2_ := (Option.bind_some _ _).symm.trans H; with_reducible exact H2_) | with_reducible exact H | (rw [hy312]; exact H) | exact H
       have Ny312 := Aside0.mk hy312
       clear hy312
       have H' := Aside0.mk H
       clear H
       have p5 : 0 ≤ (x7_1 : Int) := qd_
       have q5 : x7_1 < (a0.size : Int) := qd_
       have hx5 := bt_at a0 x7_1
       replace p5 := eq_true p5
       replace q5 := eq_true q5
       go_wp2_with (first | ((with_reducible refine gate_builtin (b := .append) (xs := #[.tmp 19, .tmp 21]) rfl ?_); at_builtin; refine Kd.R_append Kd.string (w0 := w) w.heap.size rfl (.tmp 19) (.tmp 21) 43 9 (.string ⟨#[]⟩) 16 rfl Tryd.underlying43 info9 rfl (by decide) (by omega) u5 x5_1 x6_1 [.string x6_1] (fun _ => True) (fun _ => False) rfl rfl ?aP (fun _ hk => hk.elim) ?aF ?aO ?aB ?aS ?aL ?_; (case aP => exact rfl); (case aB => exact (qb_ HB.out)); (case aF => exact (fun _ _ => trivial)); (case aO => exact (ql_ HO_5.out)); (case aS => exact (below_size (qb_ HB.out))); (case aL => have := LMc7.out; omega); intro v313 w8 ho hb hg hat; rw [← Ny312.out] at ho; have n0_ := Aside0.mk (hb); have n1_ := Aside0.mk (ho); clear HB; clear HO_5; have HB := n0_; have HO314 := n1_; clear n0_ n1_; clear ho hb hg hat))
       go_roundg k1
       case measure => have := HK1.out; omega
       case rel => exact ⟨(y312), ((⟨#[]⟩ : ByteArray)), (wrap64 (x7_1 + 1)), qr_, qr_, H', ⟨by have := HK1.out; omega⟩, ⟨ql_ HO314.out⟩, ⟨qb_ HB.out⟩⟩
      ·rw [if_neg c7] at H
       exact absurd H (by simp)
     ·rw [if_neg c6] at H
      have c6b0 : ((bt a0 x7_1) == a1) = false := beq_eq_false_iff_ne.mpr c6
      have c6b1 : ((bt a0 x7_1) != a1) = true := bne_iff_ne.mpr c6
      have c9b0 := eq_true (qd_ : 0 ≤ x7_1)
      by_cases c10 : x7_1 ≤ (wrap64 (x7_1 + 1))
      ·rw [if_pos c10] at H
       have c10b0 := eq_true c10
       have c10b1 : decide (x7_1 ≤ (wrap64 (x7_1 + 1))) = true := decide_eq_true c10
       by_cases c11 : (wrap64 (x7_1 + 1)) ≤ (a0.size : Int)
       ·rw [if_pos c11] at H
        have c11b0 := eq_true c11
        have c11b1 : decide ((wrap64 (x7_1 + 1)) ≤ (a0.size : Int)) = true := decide_eq_true c11
        by_cases c12 : x6_1.size + (a0.extract (x7_1 : Int).toNat ((wrap64 (x7_1 + 1)) : Int).toNat).size ≤ 9223372036854775807
        ·rw [if_pos c12] at H
         have c12b0 := eq_true c12
         have c12b1 : decide (x6_1.size + (a0.extract (x7_1 : Int).toNat ((wrap64 (x7_1 + 1)) : Int).toNat).size ≤ 9223372036854775807) = true := decide_eq_true c12
         try have c12b2 : (9223372036854775807 < x6_1.size + (a0.extract (x7_1 : Int).toNat ((wrap64 (x7_1 + 1)) : Int).toNat).size) = False := eq_false (Nat.not_lt.2 c12)
         (try (have c12h := c12; simp only [ByteArray.size_append, ByteArray.size_extract, Int.toNat_natCast, Nat.sub_zero, Nat.min_self, ByteArray.extract_zero_size] at c12h; have c12b7 := eq_false (Nat.not_lt.2 c12h); clear c12h))
         try have c12b5 : (9223372036854775807 < x6_1.size + (((wrap64 (x7_1 + 1)) : Int).toNat - (x7_1 : Int).toNat)) = False := eq_false (Nat.not_lt.2 (by have h_ := c12; (try have e0_ : (wrap64 (x7_1 + 1)) ≤ (a0.size : Int) := qd_); simp only [ByteArray.size_append, ByteArray.size_extract] at h_ ⊢; omega))
         have H' := Aside0.mk H
         clear H
         have p5 : 0 ≤ (x7_1 : Int) := qd_
         have q5 : x7_1 < (a0.size : Int) := qd_
         have hx5 := bt_at a0 x7_1
         replace p5 := eq_true p5
         replace q5 := eq_true q5
         go_wp2
         go_roundg k1
         case measure => have := HK1.out; omega
         case rel => exact ⟨(x5_1), (x6_1 ++ (a0.extract (x7_1 : Int).toNat ((wrap64 (x7_1 + 1)) : Int).toNat)), (wrap64 (x7_1 + 1)), qr_, qr_, H', ⟨by have := HK1.out; omega⟩, ⟨ql_ HO_5.out⟩, ⟨qb_ HB.out⟩⟩
        ·rw [if_neg c12] at H
         exact absurd H (by simp)
       ·rw [if_neg c11] at H
        exact absurd H (by simp)
      ·rw [if_neg c10] at H
       exact absurd H (by simp)
    ·rw [if_neg c4] at H
     exact absurd H (by simp)
   ·rw [if_neg c3] at H
    have c3b0 : decide (x7_1 < (a0.size : Int)) = false := decide_eq_false c3
    clear c3
    by_cases c13 : x5_1.length < 8796093022208
    ·rw [if_pos c13] at H
     have LMc13 := Aside0.mk c13
     clear c13
     obtain ⟨y315, hy315⟩ : ∃ y_ : List ByteArray, y_ = (x5_1 ++ [x6_1]) := ⟨_, rfl⟩
     replace H : (some y315) = some r := by first | (rw [hy315]; with_reducible exact H) | (have H2_ := (Option.bind_some _ _).symm.trans H; rw [hy315]; with_reducible exact H2_) | (have H2_ := (Option.bind_some _ _).symm.trans H; with_reducible exact H2_) | with_reducible exact H | (rw [hy315]; exact H) | exact H
     have Ny315 := Aside0.mk hy315
     clear hy315
     obtain rfl := Option.some.inj H
     go_wp2_with (first | ((with_reducible refine gate_builtin (b := .append) (xs := #[.tmp 30, .tmp 32]) rfl ?_); at_builtin; refine Kd.R_append Kd.string (w0 := w) w.heap.size rfl (.tmp 30) (.tmp 32) 43 9 (.string ⟨#[]⟩) 16 rfl Tryd.underlying43 info9 rfl (by decide) (by omega) u5 x5_1 x6_1 [.string x6_1] (fun _ => True) (fun _ => False) rfl rfl ?aP (fun _ hk => hk.elim) ?aF ?aO ?aB ?aS ?aL ?_; (case aP => exact rfl); (case aB => exact (qb_ HB.out)); (case aF => exact (fun _ _ => trivial)); (case aO => exact (ql_ HO_5.out)); (case aS => exact (below_size (qb_ HB.out))); (case aL => have := LMc13.out; omega); intro v316 w14 ho hb hg hat; rw [← Ny315.out] at ho; have n0_ := Aside0.mk (hb); have n1_ := Aside0.mk (ho); clear HB; clear HO_5; have HB := n0_; have HO317 := n1_; clear n0_ n1_; clear ho hb hg hat))
     go_ret
     exact ⟨_, qw_, ql_ HO317.out, qb_ HB.out⟩
    ·rw [if_neg c13] at H
     exact absurd H (by simp)

/-! ### letterboxref11_ParseDay: function 13 -/
mutual
def letterboxref11_ParseDay.j0 : Nat → ByteArray → Bool → Option (Int × Bool)
 | 0, _, _ => none
 | k + 1, x0, x20 => if x20 = true then (if 1 ≤ (wrap64 ((x0.size : Int) - 1)) then (if (wrap64 ((x0.size : Int) - 1)) ≤ (x0.size : Int) then (letterboxref11_ParseDay.j1 k (x0.extract 1 ((wrap64 ((x0.size : Int) - 1)) : Int).toNat)) else (none)) else (none)) else (letterboxref11_ParseDay.j1 k x0)
def letterboxref11_ParseDay.j1 : Nat → ByteArray → Option (Int × Bool)
 | 0, _ => none
 | k + 1, x0 => (letterboxref01_Split.f k x0 45).bind fun t318 => (if (t318.length : Int) = 3 then (if 2 < (t318.length : Int) then ((letterboxref11_digits.f k (rdOf ByteArray.empty t318 2) 4 4).bind fun t322 => (if 1 < (t318.length : Int) then ((letterboxref11_month.f k (rdOf ByteArray.empty t318 1)).bind fun t324 => (if 0 < (t318.length : Int) then ((letterboxref11_digits.f k (rdOf ByteArray.empty t318 0) 1 2).bind fun t326 => ((letterboxref11_number.f k t322 t324 t326).bind fun bt327 => (some (bt327.1, bt327.2)))) else (none))) else (none))) else (none)) else (some (0, false)))
end
def letterboxref11_ParseDay.f (k : Nat) (a0 : ByteArray) : Option (Int × Bool) := if (a0.size : Int) > 1 then (if 0 < (a0.size : Int) then (if (bt a0 0) = 34 then (if 0 ≤ (wrap64 ((a0.size : Int) - 1)) then (if (wrap64 ((a0.size : Int) - 1)) < (a0.size : Int) then (letterboxref11_ParseDay.j0 k a0 ((bt a0 (wrap64 ((a0.size : Int) - 1))) == 34)) else (none)) else (none)) else (letterboxref11_ParseDay.j0 k a0 false)) else (none)) else (letterboxref11_ParseDay.j0 k a0 false)
theorem letterboxref11_ParseDay.mono_l : ∀ k, (∀ y0 y1, LeO (letterboxref11_ParseDay.j0 k y0 y1) (letterboxref11_ParseDay.j0 (k + 1) y0 y1)) ∧ (∀ y0, LeO (letterboxref11_ParseDay.j1 k y0) (letterboxref11_ParseDay.j1 (k + 1) y0))
 | 0 => ⟨fun _ _ r h => by simp [letterboxref11_ParseDay.j0] at h, fun _ r h => by simp [letterboxref11_ParseDay.j1] at h⟩
 | k + 1 => by
  obtain ⟨ih0, ih1⟩ := letterboxref11_ParseDay.mono_l k
  refine ⟨?_, ?_⟩
  ·intro y0 y1
   unfold letterboxref11_ParseDay.j0
   repeat' first
   | (with_reducible exact ih0 _ _)
   | (with_reducible exact ih1 _)
   | (with_reducible exact letterboxref01_Split.mono _ _ _)
   | (with_reducible exact letterboxref11_digits.mono _ _ _ _)
   | (with_reducible exact letterboxref11_month.mono _ _)
   | (with_reducible exact letterboxref11_number.mono _ _ _ _)
   | (with_reducible exact LeO.refl _)
   | (with_reducible exact LeO.none _)
   | (with_reducible refine LeO.ite ?_ ?_)
   | (with_reducible refine LeO.bind ?_ (fun _ => ?_))
   | exact ih0 _ _
   | exact ih1 _
   | exact letterboxref01_Split.mono _ _ _
   | exact letterboxref11_digits.mono _ _ _ _
   | exact letterboxref11_month.mono _ _
   | exact letterboxref11_number.mono _ _ _ _
   | exact LeO.none _
   | refine LeO.ite ?_ ?_
   | refine LeO.bind ?_ (fun _ => ?_)
  ·intro y0
   unfold letterboxref11_ParseDay.j1
   repeat' first
   | (with_reducible exact ih0 _ _)
   | (with_reducible exact ih1 _)
   | (with_reducible exact letterboxref01_Split.mono _ _ _)
   | (with_reducible exact letterboxref11_digits.mono _ _ _ _)
   | (with_reducible exact letterboxref11_month.mono _ _)
   | (with_reducible exact letterboxref11_number.mono _ _ _ _)
   | (with_reducible exact LeO.refl _)
   | (with_reducible exact LeO.none _)
   | (with_reducible refine LeO.ite ?_ ?_)
   | (with_reducible refine LeO.bind ?_ (fun _ => ?_))
   | exact ih0 _ _
   | exact ih1 _
   | exact letterboxref01_Split.mono _ _ _
   | exact letterboxref11_digits.mono _ _ _ _
   | exact letterboxref11_month.mono _ _
   | exact letterboxref11_number.mono _ _ _ _
   | exact LeO.none _
   | refine LeO.ite ?_ ?_
   | refine LeO.bind ?_ (fun _ => ?_)
theorem letterboxref11_ParseDay.mono : ∀ a0 k, LeO (letterboxref11_ParseDay.f k a0) (letterboxref11_ParseDay.f (k + 1) a0) := by
 intro a0 k
 obtain ⟨ih0, ih1⟩ := letterboxref11_ParseDay.mono_l k
 unfold letterboxref11_ParseDay.f
 repeat' first
   | (with_reducible exact ih0 _ _)
   | (with_reducible exact ih1 _)
   | (with_reducible exact letterboxref01_Split.mono _ _ _)
   | (with_reducible exact letterboxref11_digits.mono _ _ _ _)
   | (with_reducible exact letterboxref11_month.mono _ _)
   | (with_reducible exact letterboxref11_number.mono _ _ _ _)
   | (with_reducible exact LeO.refl _)
   | (with_reducible exact LeO.none _)
   | (with_reducible refine LeO.ite ?_ ?_)
   | (with_reducible refine LeO.bind ?_ (fun _ => ?_))
   | exact ih0 _ _
   | exact ih1 _
   | exact letterboxref01_Split.mono _ _ _
   | exact letterboxref11_digits.mono _ _ _ _
   | exact letterboxref11_month.mono _ _
   | exact letterboxref11_number.mono _ _ _ _
   | exact LeO.none _
   | refine LeO.ite ?_ ?_
   | refine LeO.bind ?_ (fun _ => ?_)
def letterboxref11_ParseDay.T6 : Bool × List (List Nat × List Nat) := (true, [([], []), ([0], [0]), ([1], [1]), ([2], [2]), ([], []), ([4], [4]), ([5], [5]), ([6, 3], [6]), ([], []), ([8], [8]), ([9], [9]), ([10, 7], [10]), ([3, 7, 11, 11], [3, 7, 11]), ([12], [12]), ([12], [12]), ([13, 12, 0, 1, 2, 3, 4, 5, 6, 7, 8, 9, 10, 11, 12, 13, 14], [13]), ([14, 15, 0, 1, 2, 3, 4, 5, 6, 7, 8, 9, 10, 11, 12, 13, 14, 15], [14])])
def letterboxref11_ParseDay.B6 : List Nat := [0, 1, 3, 7, 0, 16, 48, 127, 0, 256, 768, 2047, 4095, 8191, 8191, 32767, 65535]
theorem letterboxref11_ParseDay.tab6 : rtab .any (opsOf Tryd.f13 6) = letterboxref11_ParseDay.T6 := by kernel_rfl
theorem letterboxref11_ParseDay.bits6 : waitsOk letterboxref11_ParseDay.T6.2 letterboxref11_ParseDay.B6 = true := by kernel_rfl
set_option maxHeartbeats 8000000 in
set_option maxRecDepth 100000 in
theorem letterboxref11_ParseDay.calls (k : Nat) (a0 : ByteArray) (r1 : Int) (r2 : Bool) (w : World) (h : letterboxref11_ParseDay.f k a0 = some (r1, r2)) :
  Calls Tryd.prog 13 #[.string a0] w fun e w' => e = .returned (.tuple #[.int .i64 r1, .bool r2]) ∧ Below w.heap.size w w' := by
 have hw8_ : ∀ x_ : Int, IntKind.u8.wrap x_ = x_ % 256 := IntKind.wrap_u8
 have HB := Aside0.mk (Below.refl w.heap.size w)
 have H : (if (a0.size : Int) > 1 then (if 0 < (a0.size : Int) then (if (bt a0 0) = 34 then (if 0 ≤ (wrap64 ((a0.size : Int) - 1)) then (if (wrap64 ((a0.size : Int) - 1)) < (a0.size : Int) then (letterboxref11_ParseDay.j0 k a0 ((bt a0 (wrap64 ((a0.size : Int) - 1))) == 34)) else (none)) else (none)) else (letterboxref11_ParseDay.j0 k a0 false)) else (none)) else (letterboxref11_ParseDay.j0 k a0 false)) = some (r1, r2) := h
 clear h
 have HC2 := Aside0.mk H
 clear H
 go_enter Tryd.func13, Tryd.ntmps13
 go_upto_region 1 with (fail)
 go_cut [20] (fun v20 wc => ∃ (kq : Nat) (x20_1 : Bool), v20 = .bool x20_1 ∧ Aside0 (letterboxref11_ParseDay.j0 kq a0 x20_1 = some (r1, r2)) ∧ Aside0 (kq ≤ k) ∧ Aside0 (Below w.heap.size w wc))
 case first =>
  have H := HC2.out
  clear HC2
  by_cases c3 : (a0.size : Int) > 1
  ·rw [if_pos c3] at H
   have c3b0 : decide (1 < (a0.size : Int)) = true := decide_eq_true c3
   have c3b1 : decide (1 < a0.size) = true := decide_eq_true (by omega)
   clear c3
   (first | rw [c3b0] | (simp only [i64_w, i32_w]; rw [c3b0]) | skip)
   by_cases c4 : 0 < (a0.size : Int)
   ·rw [if_pos c4] at H
    have c4b0 : decide (0 < (a0.size : Int)) = true := decide_eq_true c4
    have c4b1 : decide (0 < a0.size) = true := decide_eq_true (by omega)
    clear c4
    by_cases c6 : (bt a0 0) = 34
    ·rw [if_pos c6] at H
     have c6b0 : ((bt a0 0) == 34) = true := beq_iff_eq.mpr c6
     have c6b1 : ((bt a0 0) != 34) = false := bne_eq_false_iff_eq.mpr c6
     clear c6
     obtain ⟨ji7, hji7⟩ : ∃ j_ : Int, (wrap64 ((a0.size : Int) - 1)) = j_ := ⟨_, rfl⟩
     replace H : (if 0 ≤ (ji7) then (if (ji7) < (a0.size : Int) then (letterboxref11_ParseDay.j0 k a0 ((bt a0 (ji7)) == 34)) else (none)) else (none)) = some (r1, r2) := by first | (rw [hji7] at H; exact H) | (simp only [hji7] at H ⊢; exact H)
     have hji7w : (IntKind.i64.wrap ((a0.size : Int) - 1)) = ji7 := (i64_w _).trans hji7
     by_cases c8 : 0 ≤ (ji7)
     ·rw [if_pos c8] at H
      have c8b0 : decide (0 ≤ (ji7)) = true := decide_eq_true c8
      clear c8
      by_cases c9 : (ji7) < (a0.size : Int)
      ·rw [if_pos c9] at H
       have c9b0 : decide ((ji7) < (a0.size : Int)) = true := decide_eq_true c9
       clear c9
       have H' := Aside0.mk H
       clear H
       have p5 : 0 ≤ (0 : Int) := (by omega)
       have q5 : 0 < a0.size := (by have : (0 : Int) < (a0.size : Int) := qd_; omega)
       have hx5 : ∀ h : 0 < a0.size, ((a0[0]'h).toNat : Int) = bt a0 0 := bt_at a0 0
       clear p5
       have qi5 : (0 < (a0.size : Int)) = True := eq_true (qd_)
       replace q5 := eq_true q5
       have p10 : 0 ≤ ((ji7) : Int) := qd_
       have q10 : (ji7) < (a0.size : Int) := qd_
       have hx10 := bt_at a0 (ji7)
       replace p10 := eq_true p10
       replace q10 := eq_true q10
       go_wp2
       go_meet
       case rel => exact ⟨_, (((bt a0 (ji7)) == 34)), (by first | rfl | (simp; done) | (simp only [← hji7] <;> (first | rfl | simp)) | (simp [*]; done)), (by first | exact H' | (rw [hji7]; exact H')), ⟨by first | omega | exact Nat.le_refl _⟩, ⟨qb_ HB.out⟩⟩
      ·rw [if_neg c9] at H
       exact absurd H (by simp)
     ·rw [if_neg c8] at H
      exact absurd H (by simp)
    ·rw [if_neg c6] at H
     have c6b0 : ((bt a0 0) == 34) = false := beq_eq_false_iff_ne.mpr c6
     have c6b1 : ((bt a0 0) != 34) = true := bne_iff_ne.mpr c6
     have H' := Aside0.mk H
     clear H
     have p5 : 0 ≤ (0 : Int) := (by omega)
     have q5 : 0 < a0.size := (by have : (0 : Int) < (a0.size : Int) := qd_; omega)
     have hx5 : ∀ h : 0 < a0.size, ((a0[0]'h).toNat : Int) = bt a0 0 := bt_at a0 0
     clear p5
     have qi5 : (0 < (a0.size : Int)) = True := eq_true (qd_)
     replace q5 := eq_true q5
     go_wp2
     go_meet
     case rel => exact ⟨_, (false), qr_, (by first | exact H' | (rw [hji7]; exact H')), ⟨by first | omega | exact Nat.le_refl _⟩, ⟨qb_ HB.out⟩⟩
   ·rw [if_neg c4] at H
    exact absurd H (by simp)
  ·rw [if_neg c3] at H
   have c3b0 : decide (1 < (a0.size : Int)) = false := decide_eq_false c3
   have c3b1 : decide (1 < a0.size) = false := decide_eq_false (by omega)
   clear c3
   (first | rw [c3b0] | (simp only [i64_w, i32_w]; rw [c3b0]) | skip)
   have H' := Aside0.mk H
   clear H
   go_wp2
   go_meet
   case rel => exact ⟨_, (false), qr_, (by first | exact H' | (rw [hji7]; exact H')), ⟨by first | omega | exact Nat.le_refl _⟩, ⟨qb_ HB.out⟩⟩
 case rest =>
  clear HC2
  obtain ⟨kq, x20_1, rfl, HA, HJ1, HB⟩ := hcut
  cases kq with
  | zero => exact absurd HA.out (by simp [letterboxref11_ParseDay.j0])
  | succ kj1 =>
   have H := HA.out
   clear HA
   simp only [letterboxref11_ParseDay.j0] at H
   have HC11 := Aside0.mk H
   clear H
   go_upto_if 20 with (fail)
   go_cut [0] (fun v0 wc => ∃ (kq : Nat) (x0_10 : ByteArray), v0 = .string x0_10 ∧ Aside0 (letterboxref11_ParseDay.j1 kq x0_10 = some (r1, r2)) ∧ Aside0 (kq ≤ kj1) ∧ Aside0 (Below w.heap.size w wc))
   case first =>
    have H := HC11.out
    clear HC11
    by_cases c12 : x20_1 = true
    ·subst c12
     have H1 : (if 1 ≤ (wrap64 ((a0.size : Int) - 1)) then (if (wrap64 ((a0.size : Int) - 1)) ≤ (a0.size : Int) then (letterboxref11_ParseDay.j1 kj1 (a0.extract 1 ((wrap64 ((a0.size : Int) - 1)) : Int).toNat)) else (none)) else (none)) = some (r1, r2) := by rw [if_pos rfl] at H; exact H
     clear H
     have H := H1
     clear H1
     by_cases c13 : 1 ≤ (wrap64 ((a0.size : Int) - 1))
     ·rw [if_pos c13] at H
      have c13b0 := eq_true c13
      have c13b1 : decide (1 ≤ (wrap64 ((a0.size : Int) - 1))) = true := decide_eq_true c13
      clear c13
      by_cases c14 : (wrap64 ((a0.size : Int) - 1)) ≤ (a0.size : Int)
      ·rw [if_pos c14] at H
       have c14b0 := eq_true c14
       have c14b1 : decide ((wrap64 ((a0.size : Int) - 1)) ≤ (a0.size : Int)) = true := decide_eq_true c14
       clear c14
       have H' := Aside0.mk H
       clear H
       go_wp2
       go_meet
       case rel => exact ⟨_, (a0.extract 1 ((wrap64 ((a0.size : Int) - 1)) : Int).toNat), qr_, (by first | exact H' | (rw [hji7]; exact H')), ⟨by have := HJ1.out; first | omega | exact Nat.le_refl _⟩, ⟨qb_ HB.out⟩⟩
      ·rw [if_neg c14] at H
       exact absurd H (by simp)
     ·rw [if_neg c13] at H
      exact absurd H (by simp)
    ·replace c12 := Bool.eq_false_iff.mpr c12
     subst c12
     have H1 : (letterboxref11_ParseDay.j1 kj1 a0) = some (r1, r2) := by rw [if_neg (show ¬ (false = true) by decide)] at H; exact H
     clear H
     have H := H1
     clear H1
     have H' := Aside0.mk H
     clear H
     go_wp2
     go_meet
     case rel => exact ⟨_, (a0), qr_, (by first | exact H' | (rw [hji7]; exact H')), ⟨by have := HJ1.out; first | omega | exact Nat.le_refl _⟩, ⟨qb_ HB.out⟩⟩
   case rest =>
    clear HC11
    obtain ⟨kq, x0_10, rfl, HA, HJ10, HB⟩ := hcut
    cases kq with
    | zero => exact absurd HA.out (by simp [letterboxref11_ParseDay.j1])
    | succ kj10 =>
     have H := HA.out
     clear HA
     simp only [letterboxref11_ParseDay.j1] at H
     replace H := Option.bind_eq_some_iff.mp H
     obtain ⟨t318, A150, H⟩ := H
     replace H : (if (t318.length : Int) = 3 then (if 2 < (t318.length : Int) then ((letterboxref11_digits.f kj10 (rdOf ByteArray.empty t318 2) 4 4).bind fun t322 => (if 1 < (t318.length : Int) then ((letterboxref11_month.f kj10 (rdOf ByteArray.empty t318 1)).bind fun t324 => (if 0 < (t318.length : Int) then ((letterboxref11_digits.f kj10 (rdOf ByteArray.empty t318 0) 1 2).bind fun t326 => ((letterboxref11_number.f kj10 t322 t324 t326).bind fun bt327 => (some (bt327.1, bt327.2)))) else (none))) else (none))) else (none)) else (some (0, false))) = some (r1, r2) := H
     have A15 := Aside0.mk A150
     clear A150
     by_cases c16 : (t318.length : Int) = 3
     ·rw [if_pos c16] at H
      have c16b0 : ((t318.length : Int) == 3) = true := beq_iff_eq.mpr c16
      have c16b1 : ((t318.length : Int) != 3) = false := bne_eq_false_iff_eq.mpr c16
      clear c16
      by_cases c17 : 2 < (t318.length : Int)
      ·rw [if_pos c17] at H
       have c17b0 : decide (2 < (t318.length : Int)) = true := decide_eq_true c17
       have c17b1 : decide (2 < t318.length) = true := decide_eq_true (by omega)
       clear c17
       replace H := Option.bind_eq_some_iff.mp H
       obtain ⟨t322, A180, H⟩ := H
       replace H : (if 1 < (t318.length : Int) then ((letterboxref11_month.f kj10 (rdOf ByteArray.empty t318 1)).bind fun t324 => (if 0 < (t318.length : Int) then ((letterboxref11_digits.f kj10 (rdOf ByteArray.empty t318 0) 1 2).bind fun t326 => ((letterboxref11_number.f kj10 t322 t324 t326).bind fun bt327 => (some (bt327.1, bt327.2)))) else (none))) else (none)) = some (r1, r2) := H
       have A18 := Aside0.mk A180
       clear A180
       by_cases c19 : 1 < (t318.length : Int)
       ·rw [if_pos c19] at H
        have c19b0 : decide (1 < (t318.length : Int)) = true := decide_eq_true c19
        have c19b1 : decide (1 < t318.length) = true := decide_eq_true (by omega)
        clear c19
        replace H := Option.bind_eq_some_iff.mp H
        obtain ⟨t324, A200, H⟩ := H
        replace H : (if 0 < (t318.length : Int) then ((letterboxref11_digits.f kj10 (rdOf ByteArray.empty t318 0) 1 2).bind fun t326 => ((letterboxref11_number.f kj10 t322 t324 t326).bind fun bt327 => (some (bt327.1, bt327.2)))) else (none)) = some (r1, r2) := H
        have A20 := Aside0.mk A200
        clear A200
        by_cases c21 : 0 < (t318.length : Int)
        ·rw [if_pos c21] at H
         have c21b0 : decide (0 < (t318.length : Int)) = true := decide_eq_true c21
         have c21b1 : decide (0 < t318.length) = true := decide_eq_true (by omega)
         clear c21
         replace H := Option.bind_eq_some_iff.mp H
         obtain ⟨t326, A220, H⟩ := H
         replace H : ((letterboxref11_number.f kj10 t322 t324 t326).bind fun bt327 => (some (bt327.1, bt327.2))) = some (r1, r2) := H
         have A22 := Aside0.mk A220
         clear A220
         replace H := Option.bind_eq_some_iff.mp H
         obtain ⟨⟨t327, t328⟩, A230, H⟩ := H
         replace H : (some (t327, t328)) = some (r1, r2) := H
         have A23 := Aside0.mk A230
         clear A230
         simp only [Option.some.injEq, Prod.mk.injEq] at H
         obtain ⟨rfl, rfl⟩ := H
         try go_wp2_with (first | ((with_reducible refine gate_callee (f := 37) rfl ?_); refine goesL_ (some 27) rfl rfl Tryd.func37 (by kernel_rfl) rfl #[.string x0_10, .int .u8 45] rfl qa_ ?_; (with_reducible refine (letterboxref01_Split.calls kj10 x0_10 45 t318 _ A15.out).mono ?_); rintro e w24 ⟨v319, rfl, ho0, hb⟩; refine ⟨_, rfl, ?_⟩; have n0_ := Aside0.mk (Kd.R_lower ho0 (below_size (qb_ HB.out))); have n1_ := Aside0.mk (below_step (qb_ HB.out) hb); clear HB; have HO320 := n0_; have HB := n1_; clear n0_ n1_; (try clear hb); (try clear hb2); (try clear hk); (try clear hi); (try clear ho0); obtain ⟨Ao25, co25, eo25⟩ := Kd.R_slice HO320.out; subst eo25))
         have n0_ := Aside0.mk (Kd.R_drew HO320.out)
         have n1_ := Aside0.mk (below_drew1 HB.out)
         clear HO320
         clear HB
         have HO320 := n0_
         have HB := n1_
         clear n0_ n1_
         have p321 : 0 ≤ (2 : Int) := (by omega)
         have q321 : 2 < (t318.length : Int) := qd_
         obtain ⟨ad321, e321, hx321_0⟩ := Kd.at_string (Kd.R_reads' HO320.out).2.2 2 p321 q321
         cases e321
         (try simp only [show (2 : Int).toNat = 2 from rfl, Nat.reduceMul, Nat.reduceEqDiff, Go.Addr.add, ↓reduceIte] at hx321_0)
         have qi321 : (2 < t318.length) = True := eq_true (by omega)
         (try rw [show ((2 : Int)).toNat = 2 from rfl] at hx321_0)
         replace p321 := eq_true p321
         replace q321 := eq_true q321
         have p323 : 0 ≤ (1 : Int) := (by omega)
         have q323 : 1 < (t318.length : Int) := qd_
         obtain ⟨ad323, e323, hx323_0⟩ := Kd.at_string (Kd.R_reads' HO320.out).2.2 1 p323 q323
         obtain rfl : ad321 = ad323 := (by injection e323)
         (try simp only [show (1 : Int).toNat = 1 from rfl, Nat.reduceMul, Nat.reduceEqDiff, Go.Addr.add, ↓reduceIte] at hx323_0)
         have qi323 : (1 < t318.length) = True := eq_true (by omega)
         (try rw [show ((1 : Int)).toNat = 1 from rfl] at hx323_0)
         replace p323 := eq_true p323
         replace q323 := eq_true q323
         have p325 : 0 ≤ (0 : Int) := (by omega)
         have q325 : 0 < (t318.length : Int) := qd_
         obtain ⟨ad325, e325, hx325_0⟩ := Kd.at_string (Kd.R_reads' HO320.out).2.2 0 p325 q325
         obtain rfl : ad321 = ad325 := (by injection e325)
         have qi325 : (0 < t318.length) = True := eq_true (by omega)
         (try rw [show ((0 : Int)).toNat = 0 from rfl] at hx325_0)
         (try rw [Addr.add_zero'] at hx325_0)
         replace p325 := eq_true p325
         replace q325 := eq_true q325
         refine start_ (n := 17) (S := fun w' => w'.cell? ⟨ad321.block, ad321.off + 2, none⟩ = some (.string (rdOf ByteArray.empty t318 2)) ∧ w'.cell? ⟨ad321.block, ad321.off + 1, none⟩ = some (.string (rdOf ByteArray.empty t318 1)) ∧ w'.cell? ad321 = some (.string (rdOf ByteArray.empty t318 0))) (ds := []) #[false, false, false, false, false, false, false, false, false, false, false, false, false, false, false, false, false] (by kernel_rfl) rfl rfl ⟨hx321_0, hx323_0, hx325_0⟩ (fun hHeld => ?_); refine with_tabW letterboxref11_ParseDay.tab6 letterboxref11_ParseDay.bits6 (fun HT_ HW_ => ?_)
         generalize w24.drew = w26 at HO320 HB hx321_0 hx323_0 hx325_0 hHeld ⊢
         refine pure_ (i := 0) (N := some 31) (v := ?_) (a' := ?_) #[true, false, false, false, false, false, false, false, false, false, false, false, false, false, false, false, false] rfl rfl (any_of HT_.out (by kernel_rfl)) (fun _ _ _ h => h) (Or.inl ⟨by rfl, ?_⟩) ?_ ?_
         rotate_left
         ·intro w'
          go_simp
          with_reducible rfl
         rotate_left
         ·simp only [Act.put, List.setIfInBounds_toArray, List.set_cons_zero, List.set_cons_succ, i64_w, i32_w]
          rfl
         refine pure_ (i := 1) (N := some 32) (v := ?_) (a' := ?_) #[true, true, false, false, false, false, false, false, false, false, false, false, false, false, false, false, false] rfl rfl (any_of HT_.out (by kernel_rfl)) (fun _ _ _ h => h) (Or.inl ⟨by rfl, ?_⟩) ?_ ?_
         rotate_left
         ·intro w'
          go_simp
          with_reducible rfl
         rotate_left
         ·simp only [Act.put, List.setIfInBounds_toArray, List.set_cons_zero, List.set_cons_succ, i64_w, i32_w]
          rfl
         refine pure_ (i := 4) (N := some 35) (v := ?_) (a' := ?_) #[true, true, false, false, true, false, false, false, false, false, false, false, false, false, false, false, false] rfl rfl (any_of HT_.out (by kernel_rfl)) (fun _ _ _ h => h) (Or.inl ⟨by rfl, ?_⟩) ?_ ?_
         rotate_left
         ·intro w'
          go_simp
          with_reducible rfl
         rotate_left
         ·simp only [Act.put, List.setIfInBounds_toArray, List.set_cons_zero, List.set_cons_succ, i64_w, i32_w]
          rfl
         refine pure_ (i := 5) (N := some 36) (v := ?_) (a' := ?_) #[true, true, false, false, true, true, false, false, false, false, false, false, false, false, false, false, false] rfl rfl (any_of HT_.out (by kernel_rfl)) (fun _ _ _ h => h) (Or.inl ⟨by rfl, ?_⟩) ?_ ?_
         rotate_left
         ·intro w'
          go_simp
          with_reducible rfl
         rotate_left
         ·simp only [Act.put, List.setIfInBounds_toArray, List.set_cons_zero, List.set_cons_succ, i64_w, i32_w]
          rfl
         refine pure_ (i := 8) (N := some 39) (v := ?_) (a' := ?_) #[true, true, false, false, true, true, false, false, true, false, false, false, false, false, false, false, false] rfl rfl (any_of HT_.out (by kernel_rfl)) (fun _ _ _ h => h) (Or.inl ⟨by rfl, ?_⟩) ?_ ?_
         rotate_left
         ·intro w'
          go_simp
          with_reducible rfl
         rotate_left
         ·simp only [Act.put, List.setIfInBounds_toArray, List.set_cons_zero, List.set_cons_succ, i64_w, i32_w]
          rfl
         refine pure_ (i := 9) (N := some 40) (v := ?_) (a' := ?_) #[true, true, false, false, true, true, false, false, true, true, false, false, false, false, false, false, false] rfl rfl (any_of HT_.out (by kernel_rfl)) (fun _ _ _ h => h) (Or.inl ⟨by rfl, ?_⟩) ?_ ?_
         rotate_left
         ·intro w'
          go_simp
          with_reducible rfl
         rotate_left
         ·simp only [Act.put, List.setIfInBounds_toArray, List.set_cons_zero, List.set_cons_succ, i64_w, i32_w]
          rfl
         refine take_ (i := 2) (N := some 33) (v := ?_) (a' := ?_) #[true, true, true, false, true, true, false, false, true, true, false, false, false, false, false, false, false] rfl rfl (take_ofW HT_.out HW_.out (by kernel_rfl)) (fun _ _ _ h => h) (Or.inl ⟨by rfl, ?_⟩) hHeld ?_ ?_
         rotate_left
         ·rintro w' ⟨s0, s1, s2⟩
          go_simp
          with_reducible rfl
         rotate_left
         ·simp only [Act.put, List.setIfInBounds_toArray, List.set_cons_zero, List.set_cons_succ, i64_w, i32_w]
          rfl
         refine take_ (i := 6) (N := some 37) (v := ?_) (a' := ?_) #[true, true, true, false, true, true, true, false, true, true, false, false, false, false, false, false, false] rfl rfl (take_ofW HT_.out HW_.out (by kernel_rfl)) (fun _ _ _ h => h) (Or.inl ⟨by rfl, ?_⟩) hHeld ?_ ?_
         rotate_left
         ·rintro w' ⟨s0, s1, s2⟩
          go_simp
          with_reducible rfl
         rotate_left
         ·simp only [Act.put, List.setIfInBounds_toArray, List.set_cons_zero, List.set_cons_succ, i64_w, i32_w]
          rfl
         refine take_ (i := 10) (N := some 41) (v := ?_) (a' := ?_) #[true, true, true, false, true, true, true, false, true, true, true, false, false, false, false, false, false] rfl rfl (take_ofW HT_.out HW_.out (by kernel_rfl)) (fun _ _ _ h => h) (Or.inl ⟨by rfl, ?_⟩) hHeld ?_ ?_
         rotate_left
         ·rintro w' ⟨s0, s1, s2⟩
          go_simp
          with_reducible rfl
         rotate_left
         ·simp only [Act.put, List.setIfInBounds_toArray, List.set_cons_zero, List.set_cons_succ, i64_w, i32_w]
          rfl
         refine one_ (i := 3) (N := some 34) #[true, true, true, true, true, true, true, false, true, true, true, false, false, false, false, false, false] rfl rfl (one_of HT_.out (by kernel_rfl)) (by decide) (fun K hK => ?_)
         refine goes_ Tryd.func29 (by kernel_rfl) rfl #[.string (rdOf ByteArray.empty t318 2), .int .i64 4, .int .i64 4] (by rfl) rfl rfl qa_ ?_
         with_reducible refine (letterboxref11_digits.calls kj10 (rdOf ByteArray.empty t318 2) 4 4 t322 _ A18.out).mono ?_
         rintro e w' ⟨rfl, ⟨nd, rfl⟩⟩
         refine ⟨_, rfl, ?_⟩
         refine hK.out _ _ ⟨hHeld.1, hHeld.2.1, hHeld.2.2⟩ (fun hHeld => ?_)
         clear hK K
         refine norm_ (a' := ?_) ?_ ?_
         rotate_left
         ·show Act.put _ (some 34) _ = _
          simp only [Act.put, List.setIfInBounds_toArray, List.set_cons_zero, List.set_cons_succ, i64_w, i32_w]
          rfl
         refine one_ (i := 7) (N := some 38) #[true, true, true, true, true, true, true, true, true, true, true, false, false, false, false, false, false] rfl rfl (one_of HT_.out (by kernel_rfl)) (by decide) (fun K hK => ?_)
         refine goes_ Tryd.func33 (by kernel_rfl) rfl #[.string (rdOf ByteArray.empty t318 1)] (by rfl) rfl rfl qa_ ?_
         with_reducible refine (letterboxref11_month.calls kj10 (rdOf ByteArray.empty t318 1) t324 _ A20.out).mono ?_
         rintro e w27 ⟨rfl, hb⟩
         have HS0_ := (hb.cell (World.block_lt_of_cell? _ _ (hHeld.1))).trans (hHeld.1)
         have HS1_ := (hb.cell (World.block_lt_of_cell? _ _ (hHeld.2.1))).trans (hHeld.2.1)
         have HS2_ := (hb.cell (World.block_lt_of_cell? _ _ (hHeld.2.2))).trans (hHeld.2.2)
         refine ⟨_, rfl, ?_⟩
         have n0_ := Aside0.mk (Kd.R_below (ql_ HO320.out) hb)
         have n1_ := Aside0.mk (below_step (qb_ HB.out) hb)
         clear HO320
         clear HB
         have HO320 := n0_
         have HB := n1_
         clear n0_ n1_
         (try clear hb)
         (try clear hb2)
         (try clear hk)
         (try clear hi)
         refine hK.out _ _ ⟨HS0_, HS1_, HS2_⟩ (fun hHeld => ?_)
         clear hK K
         refine norm_ (a' := ?_) ?_ ?_
         rotate_left
         ·show Act.put _ (some 38) _ = _
          simp only [Act.put, List.setIfInBounds_toArray, List.set_cons_zero, List.set_cons_succ, i64_w, i32_w]
          rfl
         refine one_ (i := 11) (N := some 42) #[true, true, true, true, true, true, true, true, true, true, true, true, false, false, false, false, false] rfl rfl (one_of HT_.out (by kernel_rfl)) (by decide) (fun K hK => ?_)
         refine goes_ Tryd.func29 (by kernel_rfl) rfl #[.string (rdOf ByteArray.empty t318 0), .int .i64 1, .int .i64 2] (by rfl) rfl rfl qa_ ?_
         with_reducible refine (letterboxref11_digits.calls kj10 (rdOf ByteArray.empty t318 0) 1 2 t326 _ A22.out).mono ?_
         rintro e w' ⟨rfl, ⟨nd, rfl⟩⟩
         refine ⟨_, rfl, ?_⟩
         refine hK.out _ _ ⟨hHeld.1, hHeld.2.1, hHeld.2.2⟩ (fun hHeld => ?_)
         clear hK K
         refine norm_ (a' := ?_) ?_ ?_
         rotate_left
         ·show Act.put _ (some 42) _ = _
          simp only [Act.put, List.setIfInBounds_toArray, List.set_cons_zero, List.set_cons_succ, i64_w, i32_w]
          rfl
         refine one_ (i := 12) (N := some 43) #[true, true, true, true, true, true, true, true, true, true, true, true, true, false, false, false, false] rfl rfl (one_of HT_.out (by kernel_rfl)) (by decide) (fun K hK => ?_)
         refine goes_ Tryd.func32 (by kernel_rfl) rfl #[.int .i64 t322, .int .i64 t324, .int .i64 t326] (by rfl) rfl rfl qa_ ?_
         with_reducible refine (letterboxref11_number.calls kj10 t322 t324 t326 t327 t328 _ A23.out).mono ?_
         rintro e w' ⟨rfl, ⟨nd, rfl⟩⟩
         refine ⟨_, rfl, ?_⟩
         refine hK.out _ _ ⟨hHeld.1, hHeld.2.1, hHeld.2.2⟩ (fun hHeld => ?_)
         clear hK K
         refine norm_ (a' := ?_) ?_ ?_
         rotate_left
         ·show Act.put _ (some 43) _ = _
          simp only [Act.put, List.setIfInBounds_toArray, List.set_cons_zero, List.set_cons_succ, i64_w, i32_w]
          rfl
         refine pure_ (i := 13) (N := some 44) (v := ?_) (a' := ?_) #[true, true, true, true, true, true, true, true, true, true, true, true, true, true, false, false, false] rfl rfl (any_of HT_.out (by kernel_rfl)) (fun _ _ _ h => h) (Or.inl ⟨by rfl, ?_⟩) ?_ ?_
         rotate_left
         ·intro w'
          go_simp
          with_reducible rfl
         rotate_left
         ·simp only [Act.put, List.setIfInBounds_toArray, List.set_cons_zero, List.set_cons_succ, i64_w, i32_w]
          rfl
         refine pure_ (i := 14) (N := some 45) (v := ?_) (a' := ?_) #[true, true, true, true, true, true, true, true, true, true, true, true, true, true, true, false, false] rfl rfl (any_of HT_.out (by kernel_rfl)) (fun _ _ _ h => h) (Or.inl ⟨by rfl, ?_⟩) ?_ ?_
         rotate_left
         ·intro w'
          go_simp
          with_reducible rfl
         rotate_left
         ·simp only [Act.put, List.setIfInBounds_toArray, List.set_cons_zero, List.set_cons_succ, i64_w, i32_w]
          rfl
         refine pure_ (i := 15) (N := some 2) (v := ?_) (a' := ?_) #[true, true, true, true, true, true, true, true, true, true, true, true, true, true, true, true, false] rfl rfl (any_of HT_.out (by kernel_rfl)) (fun _ _ _ h => h) (Or.inl ⟨by rfl, ?_⟩) ?_ ?_
         rotate_left
         ·intro w'
          go_simp
          with_reducible rfl
         rotate_left
         ·simp only [Act.put, List.setIfInBounds_toArray, List.set_cons_zero, List.set_cons_succ, i64_w, i32_w]
          rfl
         refine pure_ (i := 16) (N := some 3) (v := ?_) (a' := ?_) #[true, true, true, true, true, true, true, true, true, true, true, true, true, true, true, true, true] rfl rfl (any_of HT_.out (by kernel_rfl)) (fun _ _ _ h => h) (Or.inl ⟨by rfl, ?_⟩) ?_ ?_
         rotate_left
         ·intro w'
          go_simp
          with_reducible rfl
         rotate_left
         ·simp only [Act.put, List.setIfInBounds_toArray, List.set_cons_zero, List.set_cons_succ, i64_w, i32_w]
          rfl
         refine done_ (done_of HT_.out (by kernel_rfl)) ?_
         try go_wp2
         go_ret2
         exact ⟨qw_, qb_ HB.out⟩
        ·rw [if_neg c21] at H
         exact absurd H (by simp)
       ·rw [if_neg c19] at H
        exact absurd H (by simp)
      ·rw [if_neg c17] at H
       exact absurd H (by simp)
     ·rw [if_neg c16] at H
      have c16b0 : ((t318.length : Int) == 3) = false := beq_eq_false_iff_ne.mpr c16
      have c16b1 : ((t318.length : Int) != 3) = true := bne_iff_ne.mpr c16
      simp only [Option.some.injEq, Prod.mk.injEq] at H
      obtain ⟨rfl, rfl⟩ := H
      go_wp2_with (first | ((with_reducible refine gate_callee (f := 37) rfl ?_); refine goesL_ (some 27) rfl rfl Tryd.func37 (by kernel_rfl) rfl #[.string x0_10, .int .u8 45] rfl qa_ ?_; (with_reducible refine (letterboxref01_Split.calls kj10 x0_10 45 t318 _ A15.out).mono ?_); rintro e w28 ⟨v319, rfl, ho0, hb⟩; refine ⟨_, rfl, ?_⟩; have n0_ := Aside0.mk (Kd.R_lower ho0 (below_size (qb_ HB.out))); have n1_ := Aside0.mk (below_step (qb_ HB.out) hb); clear HB; have HO320 := n0_; have HB := n1_; clear n0_ n1_; (try clear hb); (try clear hb2); (try clear hk); (try clear hi); (try clear ho0); obtain ⟨Ao29, co29, eo29⟩ := Kd.R_slice HO320.out; subst eo29))
      go_ret2
      exact ⟨qw_, qb_ HB.out⟩

end Go.Proofs.YtmbiggcapakjjaaDoor.P
