-- Written by a program of this session (wip/tools/mk.sh) for this claim: it runs the kit's print with contracts of our own. Lean checks it.
import Derived.Test.YtmbiggcapakjjaaDoorPx0
import Derived.Test.YtmbiggcapakjjaaDoorWRepsOne
import Derived.Test.YtmbiggcapakjjaaDoorZSplit
import Derived.Test.YtmbiggcapakjjaaDoorZMap
import Derived.Test.YtmbiggcapakjjaaDoorPx1
import Derived.Test.YtmbiggcapakjjaaDoorPx2
namespace Go.Proofs.YtmbiggcapakjjaaDoor.P
open Go.RowKit Go.Proofs.YtmbiggcapakjjaaDoorW.PrintWords Go.Proofs.YtmbiggcapakjjaaDoorW.PrintLast Go.Proofs.YtmbiggcapakjjaaDoorW.PrintMore
attribute [-simp] Int.tmod_tmod_of_dvd
attribute [local go_sem] max2_int min2_int max_two min_two max_three min_three max_four min_four   -- for this text's walks alone
set_option linter.unusedVariables false
set_option linter.unusedSimpArgs false

/-! ### date_zone: function 21 -/
def zn_l (c : Int) : Bool := decide (97 ≤ chars_Fold.low c ∧ chars_Fold.low c ≤ 122)
def zn_map (t : ByteArray) : Option Value := if t = (⟨#[112, 100, 116]⟩ : ByteArray) then some (.int .i64 (-7)) else (if t = (⟨#[112, 115, 116]⟩ : ByteArray) then some (.int .i64 (-8)) else (if t = (⟨#[109, 100, 116]⟩ : ByteArray) then some (.int .i64 (-6)) else (if t = (⟨#[109, 115, 116]⟩ : ByteArray) then some (.int .i64 (-7)) else (if t = (⟨#[99, 100, 116]⟩ : ByteArray) then some (.int .i64 (-5)) else (if t = (⟨#[99, 115, 116]⟩ : ByteArray) then some (.int .i64 (-6)) else (if t = (⟨#[101, 100, 116]⟩ : ByteArray) then some (.int .i64 (-4)) else (if t = (⟨#[101, 115, 116]⟩ : ByteArray) then some (.int .i64 (-5)) else (none))))))))
def zn_n (t : ByteArray) : Int := if t = (⟨#[112, 100, 116]⟩ : ByteArray) then (-7) else (if t = (⟨#[112, 115, 116]⟩ : ByteArray) then (-8) else (if t = (⟨#[109, 100, 116]⟩ : ByteArray) then (-6) else (if t = (⟨#[109, 115, 116]⟩ : ByteArray) then (-7) else (if t = (⟨#[99, 100, 116]⟩ : ByteArray) then (-5) else (if t = (⟨#[99, 115, 116]⟩ : ByteArray) then (-6) else (if t = (⟨#[101, 100, 116]⟩ : ByteArray) then (-4) else (if t = (⟨#[101, 115, 116]⟩ : ByteArray) then (-5) else (0))))))))
theorem zn_is (t : ByteArray) : (zn_map t).getD (.int .i64 0) = .int .i64 (zn_n t) := by
  unfold zn_map zn_n
  repeat' split
  all_goals rfl
theorem zn_at {P : Program} {ops : Array Oper} {Q : Exit → Act → World → Prop} {rest : List Oper} {a : Act} {d : Nat} {w : World} {v v' : Value} (e : v = v') (h : wpList P ops Q rest (a.put (some d) v') w) : wpList P ops Q rest (a.put (some d) v) w := e ▸ h
theorem zn_small (t : ByteArray) : -8 ≤ zn_n t ∧ zn_n t ≤ 0 := by
  unfold zn_n
  repeat' split
  all_goals omega
theorem zn_m : Tryd.prog.underlying 65 = some (.map 9 3) ∧ Tryd.prog.underlying 9 = some .string := ⟨Tryd.underlying65, Tryd.underlying9⟩
theorem zn_zero (w : World) : (zeroValue 3).run Tryd.prog w = .ok (.int .i64 0) w := by kernel_rfl
theorem zn_rd (l : List Int) (i : Nat) (h : i < l.length) : rd l (i : Int) = l[i] := by
  unfold rd
  rw [Int.toNat_natCast, List.getD_eq_getElem?_getD, List.getElem?_eq_getElem h]; rfl
theorem zn_all (p : Int → Bool) (s : ByteArray) (h : ∀ j : Nat, j < s.size → p (bt s (j : Int)) = true) : (bytesOf s).all p = true := by
  have hs := Go.Proofs.YtmbiggcapakjjaaDoor.Aids.size_bytes s
  rw [List.all_eq_true]
  intro x hx
  obtain ⟨j, hj, rfl⟩ := List.getElem_of_mem hx
  have := h j (by omega)
  rwa [Go.Proofs.YtmbiggcapakjjaaDoor.Aids.bt_bytes, zn_rd _ j hj] at this
theorem zn_not (p : Int → Bool) (s : ByteArray) (k : Nat) (hk : k < s.size) (h : p (bt s (k : Int)) = false) : (bytesOf s).all p = false := by
  have hs := Go.Proofs.YtmbiggcapakjjaaDoor.Aids.size_bytes s
  rw [List.all_eq_false]
  rw [Go.Proofs.YtmbiggcapakjjaaDoor.Aids.bt_bytes, zn_rd _ k (by omega)] at h
  have hk2 : k < (bytesOf s).length := by omega
  exact ⟨(bytesOf s)[k]'hk2, List.getElem_mem hk2, by rw [h]; decide⟩
def date_zone.f (k : Nat) (a0 : ByteArray) : Option (Int × Bool) := if 0 < (a0.size : Int) ∧ a0.size ≤ 1000000 then (if (bt a0 0) = 43 ∨ (bt a0 0) = 45 then date_offset.f k a0 else (if (bytesOf a0).all zn_l = true then (chars_Fold.f a0).bind fun t => some (60 * zn_n t, true) else some (0, false))) else none
theorem date_zone.mono : ∀ a0 k, LeO (date_zone.f k a0) (date_zone.f (k + 1) a0) := by
  intro a0 k
  unfold date_zone.f
  repeat' first
      | (with_reducible exact date_offset.mono _ _)
      | (with_reducible exact LeO.none _)
      | (with_reducible exact LeO.refl _)
      | (with_reducible refine LeO.ite ?_ ?_)
set_option maxHeartbeats 4000000 in
theorem date_zone.named (a0 : ByteArray) (r1 : Int) (r2 : Bool) (w : World) (hs0 : 0 < (a0.size : Int)) (hs1 : a0.size ≤ 1000000) (c6 : ¬ (bt a0 0) = 43) (c7 : ¬ (bt a0 0) = 45) (h : (if (bytesOf a0).all zn_l = true then (chars_Fold.f a0).bind fun t => some (60 * zn_n t, true) else some (0, false)) = some (r1, r2)) :
    Calls Tryd.prog 21 #[.string a0] w fun e w' => e = .returned (.tuple #[.int .i64 r1, .bool r2]) ∧ Below w.heap.size w w' := by
  have HX := Aside0.mk h
  have HS0 := Aside0.mk hs0
  have HS1 := Aside0.mk hs1
  clear h
  have q5 : 0 < a0.size := by omega
  have hx5 : ∀ h : 0 < a0.size, ((a0[0]'h).toNat : Int) = bt a0 0 := bt_at a0 0
  have qi5 : (0 < (a0.size : Int)) = True := eq_true hs0
  have c4b0 : decide (0 < (a0.size : Int)) = true := decide_eq_true hs0
  have c4b1 : decide (0 < a0.size) = true := decide_eq_true (by omega)
  have c6b0 : ((bt a0 0) == 43) = false := beq_eq_false_iff_ne.mpr c6
  have c7b0 : ((bt a0 0) == 45) = false := beq_eq_false_iff_ne.mpr c7
  clear c6 c7 hs0 hs1
  replace q5 := eq_true q5
  go_enter Tryd.func21, Tryd.ntmps21
  go_wp2
  go_loopw [21] (fun i wr => ∃ x : Int, i = .int .i64 x ∧ Aside0 (0 ≤ x ∧ x ≤ (a0.size : Int)) ∧ Aside0 (Below w.heap.size w wr) ∧ Aside0 (∀ j : Nat, j < x.toNat → zn_l (bt a0 (j : Int)) = true)) (fun i _ => a0.size - (intOf i).toNat)
  case atStart => exact ⟨0, rfl, ⟨by omega⟩, ⟨Below.refl _ _⟩, ⟨fun j hj => by simp at hj⟩⟩
  case round =>
    obtain ⟨x, rfl, hk, hB, hn⟩ := hrel
    have h0 := hk.out.1
    have h1 := hk.out.2
    by_cases hlt : x < (a0.size : Int)
    · have hb : decide (x < (a0.size : Int)) = true := decide_eq_true hlt
      have hx := bt_at a0 x
      have p4 := eq_true h0
      have q4 := eq_true hlt
      have HX2 := Aside0.mk hlt
      have HW := Aside0.mk (chars_Fold.low_is (bt a0 x))
      by_cases d1 : chars_Fold.low (bt a0 x) < 97
      · have d1b : decide (chars_Fold.low (bt a0 x) < 97) = true := decide_eq_true d1
        have HR := Aside0.mk (zn_not zn_l a0 x.toNat (by omega) (by rw [Int.toNat_of_nonneg h0]; unfold zn_l; exact decide_eq_false (by omega)))
        clear d1 hlt h0 h1
        go_wp2_with (go_at_call 48; refine (chars_Lower.calls _ _ _ HW.out).mono ?_; rintro e w2 ⟨rfl, hD2⟩; have HB2 := Aside0.mk (Drawn0.below hD2); clear hD2)
        have hx := HX.out
        rw [if_neg (by rw [HR.out]; decide)] at hx
        obtain ⟨rfl, rfl⟩ := Prod.mk.inj (Option.some.inj hx)
        exact bodyPost_ret (v := .tuple #[.int .i64 0, .bool false]) (by first | rfl | simp [results, Tryd.results21, go_sem]) rfl ⟨rfl, hB.out.trans (HB2.out.mono hB.out.size)⟩
      · have d1b : decide (chars_Fold.low (bt a0 x) < 97) = false := decide_eq_false d1
        by_cases d2 : 122 < chars_Fold.low (bt a0 x)
        · have d2b : decide (122 < chars_Fold.low (bt a0 x)) = true := decide_eq_true d2
          have HR := Aside0.mk (zn_not zn_l a0 x.toNat (by omega) (by rw [Int.toNat_of_nonneg h0]; unfold zn_l; exact decide_eq_false (by omega)))
          clear d1 d2 hlt h0 h1
          go_wp2_with (go_at_call 48; refine (chars_Lower.calls _ _ _ HW.out).mono ?_; rintro e w2 ⟨rfl, hD2⟩; have HB2 := Aside0.mk (Drawn0.below hD2); clear hD2)
          have hx := HX.out
          rw [if_neg (by rw [HR.out]; decide)] at hx
          obtain ⟨rfl, rfl⟩ := Prod.mk.inj (Option.some.inj hx)
          exact bodyPost_ret (v := .tuple #[.int .i64 0, .bool false]) (by first | rfl | simp [results, Tryd.results21, go_sem]) rfl ⟨rfl, hB.out.trans (HB2.out.mono hB.out.size)⟩
        · have d2b : decide (122 < chars_Fold.low (bt a0 x)) = false := decide_eq_false d2
          have HR := Aside0.mk (show zn_l (bt a0 x) = true by unfold zn_l; exact decide_eq_true (by omega))
          clear d1 d2 hlt h0 h1
          go_wp2_with (go_at_call 48; refine (chars_Lower.calls _ _ _ HW.out).mono ?_; rintro e w2 ⟨rfl, hD2⟩; have HB2 := Aside0.mk (Drawn0.below hD2); clear hD2)
          go_roundw
          case rel => exact ⟨x + 1, by have h0 := hk.out.1; have h1 := HX2.out; have h2 := HS1.out; have e : wrap64 (x + 1) = x + 1 := (by unfold wrap64; omega); first | (rw [e]; done) | rfl | (simp [e]; done), ⟨by have h0 := hk.out.1; have h1 := HX2.out; omega⟩, ⟨hB.out.trans (HB2.out.mono hB.out.size)⟩, ⟨fun j hj => by
            have h0 := hk.out.1
            by_cases e : j = x.toNat
            · subst e; rw [Int.toNat_of_nonneg h0]; exact HR.out
            · exact hn.out j (by omega)⟩⟩
          case measure => have h0 := hk.out.1; have h1 := HX2.out; have h2 := HS1.out; have e : wrap64 (x + 1) = x + 1 := (by unfold wrap64; omega); simp only [intOf, e]; omega
    · have hb : decide (x < (a0.size : Int)) = false := decide_eq_false hlt
      have HR := Aside0.mk (show (bytesOf a0).all zn_l = true from zn_all zn_l a0 (fun j hj => hn.out j (by omega)))
      have hx := HX.out
      rw [if_pos HR.out] at hx
      cases hf : chars_Fold.f a0 with
      | none => rw [hf] at hx; cases hx
      | some t =>
        rw [hf] at hx
        obtain ⟨rfl, rfl⟩ := Prod.mk.inj (Option.some.inj hx)
        have HF := Aside0.mk hf
        have hz := zn_small t
        have hw : wrap64 (60 * zn_n t) = 60 * zn_n t := by unfold wrap64; omega
        clear hx hf hlt h0 h1 hz
        go_wp2_with (first | ((with_reducible refine wpl_make hB.out ?_); intro wz hz; have HM := Aside0.mk hz; clear hz) | ((with_reducible refine wpl_insert zn_m HM.out _ _ ?ma ?hf ?_); (case ma => rfl); (case hf => rfl); intro wz hz; replace HM := Aside0.mk hz; clear hz) | (go_at_call 49; refine (chars_Fold.calls _ _ _ HF.out).mono ?_; rintro e w2 ⟨rfl, hB2⟩; replace HM := Aside0.mk (HM.out.grow hB2); clear hB2) | ((with_reducible refine wpl_lookup zn_m HM.out t (zn_zero _) ?ma ?ka ?_); (case ma => rfl); (case ka => rfl); refine zn_at (zn_is t) ?_))
        exact bodyPost_ret (v := .tuple #[.int .i64 (wrap64 (60 * zn_n t)), .bool true]) (by first | rfl | simp [results, Tryd.results21, go_sem]) rfl ⟨by rw [hw], HM.out.bel⟩
theorem date_zone.calls (k : Nat) (a0 : ByteArray) (r1 : Int) (r2 : Bool) (w : World) (h : date_zone.f k a0 = some (r1, r2)) :
    Calls Tryd.prog 21 #[.string a0] w fun e w' => e = .returned (.tuple #[.int .i64 r1, .bool r2]) ∧ Below w.heap.size w w' := by
  unfold date_zone.f at h
  by_cases c3 : 0 < (a0.size : Int) ∧ a0.size ≤ 1000000
  case neg => rw [if_neg c3] at h; exact absurd h (by simp)
  rw [if_pos c3] at h
  have c4 := c3.1
  by_cases c5 : (bt a0 0) = 43 ∨ (bt a0 0) = 45
  case neg =>
    rw [if_neg c5] at h
    exact date_zone.named a0 r1 r2 w c3.1 c3.2 (fun e => c5 (.inl e)) (fun e => c5 (.inr e)) h
  rw [if_pos c5] at h
  have HX := Aside0.mk h
  clear h
  have q5 : 0 < a0.size := by omega
  have hx5 : ∀ h : 0 < a0.size, ((a0[0]'h).toNat : Int) = bt a0 0 := bt_at a0 0
  have qi5 : (0 < (a0.size : Int)) = True := eq_true c4
  have c4b0 : decide (0 < (a0.size : Int)) = true := decide_eq_true c4
  have c4b1 : decide (0 < a0.size) = true := decide_eq_true (by omega)
  clear c4 c3
  replace q5 := eq_true q5
  by_cases c6 : (bt a0 0) = 43
  · have c6b0 : ((bt a0 0) == 43) = true := beq_iff_eq.mpr c6
    clear c5 c6
    go_enter Tryd.func21, Tryd.ntmps21
    go_wp2_with (go_at_call 34; refine (date_offset.calls k a0 r1 r2 _ HX.out).mono ?_; rintro e w5 ⟨rfl, hB5⟩; have HB5 := Aside0.mk hB5; clear hB5)
    exact bodyPost_ret (v := .tuple #[.int .i64 r1, .bool r2]) (by first | rfl | simp [results, Tryd.results21, go_sem]) rfl ⟨rfl, HB5.out⟩
  · have c6b0 : ((bt a0 0) == 43) = false := beq_eq_false_iff_ne.mpr c6
    have c7b0 : ((bt a0 0) == 45) = true := beq_iff_eq.mpr (by omega)
    clear c5 c6
    go_enter Tryd.func21, Tryd.ntmps21
    go_wp2_with (go_at_call 34; refine (date_offset.calls k a0 r1 r2 _ HX.out).mono ?_; rintro e w5 ⟨rfl, hB5⟩; have HB5 := Aside0.mk hB5; clear hB5)
    exact bodyPost_ret (v := .tuple #[.int .i64 r1, .bool r2]) (by first | rfl | simp [results, Tryd.results21, go_sem]) rfl ⟨rfl, HB5.out⟩

/-! ### chars_Split: function 50 -/
def chars_Split.l0 : Nat → ByteArray → Int → List ByteArray → Int → Int → Int → Option (List ByteArray)
 | 0, _, _, _, _, _, _ => none
 | k + 1, x0, x1, x5, x6, x9, x10 => if x10 < x9 then (if 0 ≤ x10 then (if x10 < (x0.size : Int) then (if (bt x0 x10) = x1 then (if 0 ≤ x6 then (if x6 ≤ x10 then (if x10 ≤ (x0.size : Int) then (if x5.length < 8796093022208 then (chars_Split.l0 k x0 x1 (x5 ++ [x0.extract (x6 : Int).toNat (x10 : Int).toNat]) (wrap64 (x10 + 1)) x9 (wrap64 (x10 + 1))) else (none)) else (none)) else (none)) else (none)) else (chars_Split.l0 k x0 x1 x5 x6 x9 (wrap64 (x10 + 1)))) else (none)) else (none)) else (if 0 ≤ x6 then (if x6 ≤ (x0.size : Int) then (if x5.length < 8796093022208 then (some (x5 ++ [x0.extract (x6 : Int).toNat x0.size])) else (none)) else (none)) else (none))
def chars_Split.f (k : Nat) (a0 : ByteArray) (a1 : Int) : Option (List ByteArray) := chars_Split.l0 k a0 a1 ([] : List ByteArray) 0 (a0.size : Int) 0
theorem chars_Split.mono_l : ∀ k, (∀ y0 y1 y2 y3 y4 y5, LeO (chars_Split.l0 k y0 y1 y2 y3 y4 y5) (chars_Split.l0 (k + 1) y0 y1 y2 y3 y4 y5))
 | 0 => fun _ _ _ _ _ _ r h => by simp [chars_Split.l0] at h
 | k + 1 => by
  have ih0 := chars_Split.mono_l k
  ·intro y0 y1 y2 y3 y4 y5
   unfold chars_Split.l0
   repeat' first
   | (with_reducible exact ih0 _ _ _ _ _ _)
   | (with_reducible exact LeO.refl _)
   | (with_reducible exact LeO.none _)
   | (with_reducible refine LeO.ite ?_ ?_)
   | (with_reducible refine LeO.bind ?_ (fun _ => ?_))
   | exact ih0 _ _ _ _ _ _
   | exact LeO.none _
   | refine LeO.ite ?_ ?_
   | refine LeO.bind ?_ (fun _ => ?_)
theorem chars_Split.mono : ∀ a0 a1 k, LeO (chars_Split.f k a0 a1) (chars_Split.f (k + 1) a0 a1) := by
 intro a0 a1 k
 have ih0 := chars_Split.mono_l k
 unfold chars_Split.f
 repeat' first
   | (with_reducible exact ih0 _ _ _ _ _ _)
   | (with_reducible exact LeO.refl _)
   | (with_reducible exact LeO.none _)
   | (with_reducible refine LeO.ite ?_ ?_)
   | (with_reducible refine LeO.bind ?_ (fun _ => ?_))
   | exact ih0 _ _ _ _ _ _
   | exact LeO.none _
   | refine LeO.ite ?_ ?_
   | refine LeO.bind ?_ (fun _ => ?_)
set_option maxHeartbeats 8000000 in
set_option maxRecDepth 100000 in
theorem chars_Split.calls (k : Nat) (a0 : ByteArray) (a1 : Int) (r : List ByteArray) (w : World) (h : chars_Split.f k a0 a1 = some r) :
  Calls Tryd.prog 50 #[.string a0, .int .u8 a1] w fun e w' => ∃ v0_ : Value, e = .returned (v0_) ∧ Kd.R Kd.string 9 w' w.heap.size (fun _ => True) v0_ r ∧ Below w.heap.size w w' := by
 have HB := Aside0.mk (Below.refl w.heap.size w)
 have H : (chars_Split.l0 k a0 a1 ([] : List ByteArray) 0 (a0.size : Int) 0) = some r := h
 clear h
 have H' := Aside0.mk H
 clear H
 go_enter Tryd.func50, Tryd.ntmps50
 go_wp2
 go_loopg [5, 6, 10] k (fun kq v5 v6 v10 w' => ∃ (x5_1 : List ByteArray) (x6_1 : Int) (x10_1 : Int), v6 = .int .i64 x6_1 ∧ v10 = .int .i64 x10_1 ∧ Aside0 (chars_Split.l0 kq a0 a1 x5_1 x6_1 (a0.size : Int) x10_1 = some r) ∧ Aside0 (kq ≤ k) ∧ Aside0 (Kd.R Kd.string 9 w' w.heap.size (fun _ => True) v5 x5_1) ∧ Aside0 (Below w.heap.size w w'))
 case atStart => exact ⟨(([] : List ByteArray)), (0), (0), qr_, qr_, H', ⟨Nat.le_refl _⟩, ⟨qn_⟩, ⟨qb_ HB.out⟩⟩
 case round =>
  clear H'
  obtain ⟨x5_1, x6_1, x10_1, rfl, rfl, HA, HK1, HO_5, HB⟩ := hrel
  cases gk with
  | zero => exact absurd HA.out (by simp [chars_Split.l0])
  | succ k1 =>
   have H := HA.out
   clear HA
   simp only [chars_Split.l0] at H
   by_cases c3 : x10_1 < (a0.size : Int)
   ·rw [if_pos c3] at H
    have c3b0 : decide (x10_1 < (a0.size : Int)) = true := decide_eq_true c3
    clear c3
    by_cases c4 : 0 ≤ x10_1
    ·rw [if_pos c4] at H
     have c4b0 : decide (0 ≤ x10_1) = true := decide_eq_true c4
     clear c4
     by_cases c5 : x10_1 < (a0.size : Int)
     ·rw [if_pos c5] at H
      have c5b0 : decide (x10_1 < (a0.size : Int)) = true := decide_eq_true c5
      clear c5
      by_cases c7 : (bt a0 x10_1) = a1
      ·rw [if_pos c7] at H
       have c7b0 : ((bt a0 x10_1) == a1) = true := beq_iff_eq.mpr c7
       have c7b1 : ((bt a0 x10_1) != a1) = false := bne_eq_false_iff_eq.mpr c7
       clear c7
       by_cases c8 : 0 ≤ x6_1
       ·rw [if_pos c8] at H
        have c8b0 := eq_true c8
        have c8b1 : decide (0 ≤ x6_1) = true := decide_eq_true c8
        clear c8
        by_cases c9 : x6_1 ≤ x10_1
        ·rw [if_pos c9] at H
         have c9b0 := eq_true c9
         have c9b1 : decide (x6_1 ≤ x10_1) = true := decide_eq_true c9
         clear c9
         by_cases c10 : x10_1 ≤ (a0.size : Int)
         ·rw [if_pos c10] at H
          have c10b0 := eq_true c10
          have c10b1 : decide (x10_1 ≤ (a0.size : Int)) = true := decide_eq_true c10
          clear c10
          by_cases c11 : x5_1.length < 8796093022208
          ·rw [if_pos c11] at H
           have LMc11 := Aside0.mk c11
           clear c11
           obtain ⟨y122, hy122⟩ : ∃ y_ : List ByteArray, y_ = (x5_1 ++ [a0.extract (x6_1 : Int).toNat (x10_1 : Int).toNat]) := ⟨_, rfl⟩
           replace H : (chars_Split.l0 k1 a0 a1 y122 (wrap64 (x10_1 + 1)) (a0.size : Int) (wrap64 (x10_1 + 1))) = some r := by first | (rw [hy122]; with_reducible exact H) | (have H2_ := (Option.bind_some _ _).symm.trans H; rw [hy122]; with_reducible exact H2_) | (have H2_ := (Option.bind_some _ _).symm.trans H; with_reducible exact H2_) | with_reducible exact H | (rw [hy122]; exact H) | exact H
           have Ny122 := Aside0.mk hy122
           clear hy122
           have H' := Aside0.mk H
           clear H
           have p6 : 0 ≤ (x10_1 : Int) := qd_
           have q6 : x10_1 < (a0.size : Int) := qd_
           have hx6 := bt_at a0 x10_1
           replace p6 := eq_true p6
           replace q6 := eq_true q6
           go_wp2_with (first | ((with_reducible refine gate_builtin (b := .append) (xs := #[.tmp 18, .tmp 23]) rfl ?_); at_builtin; refine Kd.R_append Kd.string (w0 := w) w.heap.size rfl (.tmp 18) (.tmp 23) 43 9 (.string ⟨#[]⟩) 16 rfl Tryd.underlying43 info9 rfl (by decide) (by omega) u5 x5_1 (a0.extract (x6_1 : Int).toNat (x10_1 : Int).toNat) [.string (a0.extract (x6_1 : Int).toNat (x10_1 : Int).toNat)] (fun _ => True) (fun _ => False) rfl rfl ?aP (fun _ hk => hk.elim) ?aF ?aO ?aB ?aS ?aL ?_; (case aP => exact rfl); (case aB => exact (qb_ HB.out)); (case aF => exact (fun _ _ => trivial)); (case aO => exact (ql_ HO_5.out)); (case aS => exact (below_size (qb_ HB.out))); (case aL => have := LMc11.out; omega); intro v123 w12 ho hb hg hat; rw [← Ny122.out] at ho; have n0_ := Aside0.mk (hb); have n1_ := Aside0.mk (ho); clear HB; clear HO_5; have HB := n0_; have HO124 := n1_; clear n0_ n1_; clear ho hb hg hat))
           go_roundg k1
           case measure => have := HK1.out; omega
           case rel => exact ⟨(y122), (wrap64 (x10_1 + 1)), (wrap64 (x10_1 + 1)), qr_, qr_, H', ⟨by have := HK1.out; omega⟩, ⟨ql_ HO124.out⟩, ⟨qb_ HB.out⟩⟩
          ·rw [if_neg c11] at H
           exact absurd H (by simp)
         ·rw [if_neg c10] at H
          exact absurd H (by simp)
        ·rw [if_neg c9] at H
         exact absurd H (by simp)
       ·rw [if_neg c8] at H
        exact absurd H (by simp)
      ·rw [if_neg c7] at H
       have c7b0 : ((bt a0 x10_1) == a1) = false := beq_eq_false_iff_ne.mpr c7
       have c7b1 : ((bt a0 x10_1) != a1) = true := bne_iff_ne.mpr c7
       have H' := Aside0.mk H
       clear H
       have p6 : 0 ≤ (x10_1 : Int) := qd_
       have q6 : x10_1 < (a0.size : Int) := qd_
       have hx6 := bt_at a0 x10_1
       replace p6 := eq_true p6
       replace q6 := eq_true q6
       go_wp2
       go_roundg k1
       case measure => have := HK1.out; omega
       case rel => exact ⟨(x5_1), (x6_1), (wrap64 (x10_1 + 1)), qr_, qr_, H', ⟨by have := HK1.out; omega⟩, ⟨ql_ HO_5.out⟩, ⟨qb_ HB.out⟩⟩
     ·rw [if_neg c5] at H
      exact absurd H (by simp)
    ·rw [if_neg c4] at H
     exact absurd H (by simp)
   ·rw [if_neg c3] at H
    have c3b0 : decide (x10_1 < (a0.size : Int)) = false := decide_eq_false c3
    clear c3
    by_cases c13 : 0 ≤ x6_1
    ·rw [if_pos c13] at H
     have c13b0 := eq_true c13
     have c13b1 : decide (0 ≤ x6_1) = true := decide_eq_true c13
     clear c13
     by_cases c14 : x6_1 ≤ (a0.size : Int)
     ·rw [if_pos c14] at H
      have c14b0 := eq_true c14
      have c14b1 : decide (x6_1 ≤ (a0.size : Int)) = true := decide_eq_true c14
      clear c14
      by_cases c15 : x5_1.length < 8796093022208
      ·rw [if_pos c15] at H
       have LMc15 := Aside0.mk c15
       clear c15
       obtain ⟨y125, hy125⟩ : ∃ y_ : List ByteArray, y_ = (x5_1 ++ [a0.extract (x6_1 : Int).toNat a0.size]) := ⟨_, rfl⟩
       replace H : (some y125) = some r := by first | (rw [hy125]; with_reducible exact H) | (have H2_ := (Option.bind_some _ _).symm.trans H; rw [hy125]; with_reducible exact H2_) | (have H2_ := (Option.bind_some _ _).symm.trans H; with_reducible exact H2_) | with_reducible exact H | (rw [hy125]; exact H) | exact H
       have Ny125 := Aside0.mk hy125
       clear hy125
       obtain rfl := Option.some.inj H
       go_wp2_with (first | ((with_reducible refine gate_builtin (b := .append) (xs := #[.tmp 28, .tmp 32]) rfl ?_); at_builtin; refine Kd.R_append Kd.string (w0 := w) w.heap.size rfl (.tmp 28) (.tmp 32) 43 9 (.string ⟨#[]⟩) 16 rfl Tryd.underlying43 info9 rfl (by decide) (by omega) u5 x5_1 (a0.extract (x6_1 : Int).toNat a0.size) [.string (a0.extract (x6_1 : Int).toNat a0.size)] (fun _ => True) (fun _ => False) rfl rfl ?aP (fun _ hk => hk.elim) ?aF ?aO ?aB ?aS ?aL ?_; (case aP => exact rfl); (case aB => exact (qb_ HB.out)); (case aF => exact (fun _ _ => trivial)); (case aO => exact (ql_ HO_5.out)); (case aS => exact (below_size (qb_ HB.out))); (case aL => have := LMc15.out; omega); intro v126 w16 ho hb hg hat; rw [← Ny125.out] at ho; have n0_ := Aside0.mk (hb); have n1_ := Aside0.mk (ho); clear HB; clear HO_5; have HB := n0_; have HO127 := n1_; clear n0_ n1_; clear ho hb hg hat))
       go_ret
       exact ⟨_, qw_, ql_ HO127.out, qb_ HB.out⟩
      ·rw [if_neg c15] at H
       exact absurd H (by simp)
     ·rw [if_neg c14] at H
      exact absurd H (by simp)
    ·rw [if_neg c13] at H
     exact absurd H (by simp)

/-! ### date_clock: function 22 -/
mutual
def date_clock.l0 : Nat → Int → List Int → List ByteArray → Int → List ByteArray → Int → Int → Option (Int)
 | 0, _, _, _, _, _, _, _ => none
 | k + 1, x1, x2, x7, x8, x16, x17, x18 => if x18 < x17 then (if 0 ≤ x18 then (if x18 < (x16.length : Int) then ((date_digits.f k (rdOf ByteArray.empty x16 x18) (([2] : List Int))).bind fun t135 => (if x18 ≥ 3 then (some (-1)) else (if t135 < 0 then (some (-1)) else (if x18 < 3 then (if t135 > (ar3_ 23 59 x1 x18) then (some (-1)) else (date_clock.l0 k x1 x2 x7 (wrap64 (x8 + (wrap64 (t135 * (ar3_ 3600 60 1 x18))))) x16 x17 (wrap64 (x18 + 1)))) else (none))))) else (none)) else (none)) else (date_clock.l1 k x7 x8 x2 (x2.length : Int) 0)
def date_clock.l1 : Nat → List ByteArray → Int → List Int → Int → Int → Option (Int)
 | 0, _, _, _, _, _ => none
 | k + 1, x7, x8, x48, x49, x50 => if x50 < x49 then (if 0 ≤ x50 then (if x50 < (x48.length : Int) then (if (x7.length : Int) = (rd x48 x50) then (some x8) else (date_clock.l1 k x7 x8 x48 x49 (wrap64 (x50 + 1)))) else (none)) else (none)) else (some (-1))
end
def date_clock.f (k : Nat) (a0 : ByteArray) (a1 : Int) (l2 : List Int) : Option (Int) := (chars_Split.f k a0 58).bind fun t128 => (date_clock.l0 k a1 l2 t128 0 t128 (t128.length : Int) 0)
theorem date_clock.mono_l : ∀ k, (∀ y0 y1 y2 y3 y4 y5 y6, LeO (date_clock.l0 k y0 y1 y2 y3 y4 y5 y6) (date_clock.l0 (k + 1) y0 y1 y2 y3 y4 y5 y6)) ∧ (∀ y0 y1 y2 y3 y4, LeO (date_clock.l1 k y0 y1 y2 y3 y4) (date_clock.l1 (k + 1) y0 y1 y2 y3 y4))
 | 0 => ⟨fun _ _ _ _ _ _ _ r h => by simp [date_clock.l0] at h, fun _ _ _ _ _ r h => by simp [date_clock.l1] at h⟩
 | k + 1 => by
  obtain ⟨ih0, ih1⟩ := date_clock.mono_l k
  refine ⟨?_, ?_⟩
  ·intro y0 y1 y2 y3 y4 y5 y6
   unfold date_clock.l0
   repeat' first
   | (with_reducible exact ih0 _ _ _ _ _ _ _)
   | (with_reducible exact ih1 _ _ _ _ _)
   | (with_reducible exact chars_Split.mono _ _ _)
   | (with_reducible exact date_digits.mono _ _ _)
   | (with_reducible exact LeO.refl _)
   | (with_reducible exact LeO.none _)
   | (with_reducible refine LeO.ite ?_ ?_)
   | (with_reducible refine LeO.bind ?_ (fun _ => ?_))
   | exact ih0 _ _ _ _ _ _ _
   | exact ih1 _ _ _ _ _
   | exact chars_Split.mono _ _ _
   | exact date_digits.mono _ _ _
   | exact LeO.none _
   | refine LeO.ite ?_ ?_
   | refine LeO.bind ?_ (fun _ => ?_)
  ·intro y0 y1 y2 y3 y4
   unfold date_clock.l1
   repeat' first
   | (with_reducible exact ih0 _ _ _ _ _ _ _)
   | (with_reducible exact ih1 _ _ _ _ _)
   | (with_reducible exact chars_Split.mono _ _ _)
   | (with_reducible exact date_digits.mono _ _ _)
   | (with_reducible exact LeO.refl _)
   | (with_reducible exact LeO.none _)
   | (with_reducible refine LeO.ite ?_ ?_)
   | (with_reducible refine LeO.bind ?_ (fun _ => ?_))
   | exact ih0 _ _ _ _ _ _ _
   | exact ih1 _ _ _ _ _
   | exact chars_Split.mono _ _ _
   | exact date_digits.mono _ _ _
   | exact LeO.none _
   | refine LeO.ite ?_ ?_
   | refine LeO.bind ?_ (fun _ => ?_)
theorem date_clock.mono : ∀ a0 a1 a2 k, LeO (date_clock.f k a0 a1 a2) (date_clock.f (k + 1) a0 a1 a2) := by
 intro a0 a1 a2 k
 obtain ⟨ih0, ih1⟩ := date_clock.mono_l k
 unfold date_clock.f
 repeat' first
   | (with_reducible exact ih0 _ _ _ _ _ _ _)
   | (with_reducible exact ih1 _ _ _ _ _)
   | (with_reducible exact chars_Split.mono _ _ _)
   | (with_reducible exact date_digits.mono _ _ _)
   | (with_reducible exact LeO.refl _)
   | (with_reducible exact LeO.none _)
   | (with_reducible refine LeO.ite ?_ ?_)
   | (with_reducible refine LeO.bind ?_ (fun _ => ?_))
   | exact ih0 _ _ _ _ _ _ _
   | exact ih1 _ _ _ _ _
   | exact chars_Split.mono _ _ _
   | exact date_digits.mono _ _ _
   | exact LeO.none _
   | refine LeO.ite ?_ ?_
   | refine LeO.bind ?_ (fun _ => ?_)
set_option maxHeartbeats 8000000 in
set_option maxRecDepth 100000 in
theorem date_clock.calls (k : Nat) (a0 : ByteArray) (a1 : Int) (A2 : Option Addr) (c2 : Nat) (l2 : List Int) (r : Int) (w : World) (hr2 : Kd.C (Kd.int .i64) w A2 l2.length l2) (hc2 : l2.length ≤ c2) (h : date_clock.f k a0 a1 l2 = some r) :
  Calls Tryd.prog 22 #[.string a0, .int .i64 a1, .slice A2 l2.length c2] w fun e w' => e = .returned (.int .i64 r) ∧ Below w.heap.size w w' := by
 have HR2 := Aside0.mk hr2
 have HC2 := Aside0.mk hc2
 clear hr2 hc2
 have HB := Aside0.mk (Below.refl w.heap.size w)
 have H : ((chars_Split.f k a0 58).bind fun t128 => (date_clock.l0 k a1 l2 t128 0 t128 (t128.length : Int) 0)) = some r := h
 clear h
 replace H := Option.bind_eq_some_iff.mp H
 obtain ⟨t128, A40, H⟩ := H
 replace H : (date_clock.l0 k a1 l2 t128 0 t128 (t128.length : Int) 0) = some r := H
 have A4 := Aside0.mk A40
 clear A40
 have H' := Aside0.mk H
 clear H
 go_enter Tryd.func22, Tryd.ntmps22
 go_wp2_with (first | ((with_reducible refine gate_callee (f := 50) rfl ?_); refine goesL_ (some 15) rfl rfl Tryd.func50 (by kernel_rfl) rfl #[.string a0, .int .u8 58] rfl qa_ ?_; (with_reducible refine (chars_Split.calls k a0 58 t128 _ A4.out).mono ?_); rintro e w5 ⟨v129, rfl, ho0, hb⟩; refine ⟨_, rfl, ?_⟩; have n0_ := Aside0.mk (Kd.R_lower ho0 (below_size (qb_ HB.out))); have n1_ := Aside0.mk (below_step (qb_ HB.out) hb); clear HB; have HO130 := n0_; have HB := n1_; clear n0_ n1_; (try clear hb); (try clear hb2); (try clear hk); (try clear hi); (try clear ho0); obtain ⟨Ao6, co6, eo6⟩ := Kd.R_slice HO130.out; subst eo6))
 go_loopg [8, 18] k (fun kq v8 v18 w' => ∃ (x8_1 : Int) (x18_1 : Int), v8 = .int .i64 x8_1 ∧ v18 = .int .i64 x18_1 ∧ Aside0 (date_clock.l0 kq a1 l2 t128 x8_1 t128 (t128.length : Int) x18_1 = some r) ∧ Aside0 (kq ≤ k) ∧ Aside0 (Kd.R Kd.string 9 w' w.heap.size (fun _ => True) (.slice Ao6 t128.length co6) t128) ∧ Aside0 (Kd.R Kd.string 9 w' w.heap.size (fun _ => True) (.slice Ao6 t128.length co6) t128) ∧ Aside0 (Below w.heap.size w w'))
 case atStart => exact ⟨(0), (0), qr_, qr_, H', ⟨Nat.le_refl _⟩, ⟨ql_ HO130.out⟩, ⟨ql_ HO130.out⟩, ⟨qb_ HB.out⟩⟩
 case round =>
  clear H'
  obtain ⟨x8_1, x18_1, rfl, rfl, HA, HK1, HO_7, HO_16, HB⟩ := hrel
  cases gk with
  | zero => exact absurd HA.out (by simp [date_clock.l0])
  | succ k1 =>
   have H := HA.out
   clear HA
   simp only [date_clock.l0] at H
   by_cases c7 : x18_1 < (t128.length : Int)
   ·rw [if_pos c7] at H
    have c7b0 : decide (x18_1 < (t128.length : Int)) = true := decide_eq_true c7
    clear c7
    by_cases c8 : 0 ≤ x18_1
    ·rw [if_pos c8] at H
     have c8b0 : decide (0 ≤ x18_1) = true := decide_eq_true c8
     clear c8
     by_cases c9 : x18_1 < (t128.length : Int)
     ·rw [if_pos c9] at H
      have c9b0 : decide (x18_1 < (t128.length : Int)) = true := decide_eq_true c9
      clear c9
      obtain ⟨y132, hy132⟩ : ∃ y_ : List Int, y_ = (([2] : List Int)) := ⟨_, rfl⟩
      replace H : ((date_digits.f k1 (rdOf ByteArray.empty t128 x18_1) y132).bind fun t135 => (if x18_1 ≥ 3 then (some (-1)) else (if t135 < 0 then (some (-1)) else (if x18_1 < 3 then (if t135 > (ar3_ 23 59 a1 x18_1) then (some (-1)) else (date_clock.l0 k1 a1 l2 t128 (wrap64 (x8_1 + (wrap64 (t135 * (ar3_ 3600 60 1 x18_1))))) t128 (t128.length : Int) (wrap64 (x18_1 + 1)))) else (none))))) = some r := by first | (rw [hy132]; with_reducible exact H) | (have H2_ := (Option.bind_some _ _).symm.trans H; rw [hy132]; with_reducible exact H2_) | (have H2_ := (Option.bind_some _ _).symm.trans H; with_reducible exact H2_) | with_reducible exact H | (rw [hy132]; exact H) | exact H
      have Ny132 := Aside0.mk hy132
      clear hy132
      replace H := Option.bind_eq_some_iff.mp H
      obtain ⟨t135, A100, H⟩ := H
      replace H : (if x18_1 ≥ 3 then (some (-1)) else (if t135 < 0 then (some (-1)) else (if x18_1 < 3 then (if t135 > (ar3_ 23 59 a1 x18_1) then (some (-1)) else (date_clock.l0 k1 a1 l2 t128 (wrap64 (x8_1 + (wrap64 (t135 * (ar3_ 3600 60 1 x18_1))))) t128 (t128.length : Int) (wrap64 (x18_1 + 1)))) else (none)))) = some r := H
      have A10 := Aside0.mk A100
      clear A100
      by_cases c11 : x18_1 ≥ 3
      ·rw [if_pos c11] at H
       have c11b0 : decide (3 ≤ x18_1) = true := decide_eq_true c11
       clear c11
       obtain rfl := Option.some.inj H
       have p131 : 0 ≤ (x18_1 : Int) := qd_
       have q131 : x18_1 < (t128.length : Int) := qd_
       obtain ⟨ad131, e131, hx131_0⟩ := Kd.at_string (Kd.R_reads' HO_16.out).2.2 x18_1 p131 q131
       cases e131
       replace p131 := eq_true p131
       replace q131 := eq_true q131
       go_wp2_with (first | ((with_reducible refine gate_dst (N := 24) rfl ?_); refine Kd.R_lit (Kd.int .i64) _ 3 ?hg (N := 24) ?hd (xs := ([2] : List Int)) (inner := [.int .i64 2]) (ok := fun _ => True) (okp := fun _ => True) ?hr ?hp (fun _ hk => hk) trivial (Below.refl _ _) (Nat.le_refl _) (by simp) ?_; (case hd => rfl); (case hg => rfl); (case hr => first | (go_simp; done) | (go_simp; rfl)); (case hp => exact (Reps.one (show Kd.M (Kd.int .i64) _ _ _ 2 [.int .i64 2] from rfl) (Reps.none _ _))); intro v133 w12 ho13 hb hg_ hnew_; clear hg_ hnew_; (first | rw [← Ny132.out] at ho13 | (simp only [Int.reduceToNat] at ho13; rw [← Ny132.out] at ho13)); have n0_ := Aside0.mk (Kd.R_below (ql_ HO_7.out) hb); have n1_ := Aside0.mk (Kd.R_below (ql_ HO_16.out) hb); have n2_ := Aside0.mk (Kd.R_lower ho13 (below_size (qb_ HB.out))); have n3_ := Aside0.mk (below_step (qb_ HB.out) hb); clear HO_7; clear HO_16; clear HB; have HO_7 := n0_; have HO_16 := n1_; have HO134 := n2_; have HB := n3_; clear n0_ n1_ n2_ n3_; clear hb ho13; obtain ⟨Ao14, co14, eo14⟩ := Kd.R_slice HO134.out; subst eo14) | ((with_reducible refine gate_callee (f := 25) rfl ?_); refine goesL_ (some 25) rfl rfl Tryd.func25 (by kernel_rfl) rfl #[.string (rdOf ByteArray.empty t128 x18_1), .slice Ao14 y132.length co14] rfl qa_ ?_; (with_reducible refine (date_digits.calls k1 (rdOf ByteArray.empty t128 x18_1) _ _ y132 t135 _ ?side1 ?side2 A10.out).mono ?_); (case side1 => repeat (first | exact (Kd.R_reads' HO134.out).2.2 | (with_reducible refine Kd.C_alloc ?_ _) | (with_reducible refine Kd.C_drewN ?_ _) | (with_reducible refine Kd.C_drew ?_))); (case side2 => exact (Kd.R_reads' HO134.out).2.1); rintro e w' ⟨rfl, ⟨nd, rfl⟩⟩; refine ⟨_, rfl, ?_⟩))
       go_ret
       exact ⟨qw_, qb_ HB.out⟩
      ·rw [if_neg c11] at H
       have c11b0 : decide (3 ≤ x18_1) = false := decide_eq_false c11
       clear c11
       by_cases c15 : t135 < 0
       ·rw [if_pos c15] at H
        have c15b0 : decide (t135 < 0) = true := decide_eq_true c15
        clear c15
        obtain rfl := Option.some.inj H
        have p131 : 0 ≤ (x18_1 : Int) := qd_
        have q131 : x18_1 < (t128.length : Int) := qd_
        obtain ⟨ad131, e131, hx131_0⟩ := Kd.at_string (Kd.R_reads' HO_16.out).2.2 x18_1 p131 q131
        cases e131
        replace p131 := eq_true p131
        replace q131 := eq_true q131
        go_wp2_with (first | ((with_reducible refine gate_dst (N := 24) rfl ?_); refine Kd.R_lit (Kd.int .i64) _ 3 ?hg (N := 24) ?hd (xs := ([2] : List Int)) (inner := [.int .i64 2]) (ok := fun _ => True) (okp := fun _ => True) ?hr ?hp (fun _ hk => hk) trivial (Below.refl _ _) (Nat.le_refl _) (by simp) ?_; (case hd => rfl); (case hg => rfl); (case hr => first | (go_simp; done) | (go_simp; rfl)); (case hp => exact (Reps.one (show Kd.M (Kd.int .i64) _ _ _ 2 [.int .i64 2] from rfl) (Reps.none _ _))); intro v133 w16 ho17 hb hg_ hnew_; clear hg_ hnew_; (first | rw [← Ny132.out] at ho17 | (simp only [Int.reduceToNat] at ho17; rw [← Ny132.out] at ho17)); have n0_ := Aside0.mk (Kd.R_below (ql_ HO_7.out) hb); have n1_ := Aside0.mk (Kd.R_below (ql_ HO_16.out) hb); have n2_ := Aside0.mk (Kd.R_lower ho17 (below_size (qb_ HB.out))); have n3_ := Aside0.mk (below_step (qb_ HB.out) hb); clear HO_7; clear HO_16; clear HB; have HO_7 := n0_; have HO_16 := n1_; have HO134 := n2_; have HB := n3_; clear n0_ n1_ n2_ n3_; clear hb ho17; obtain ⟨Ao18, co18, eo18⟩ := Kd.R_slice HO134.out; subst eo18) | ((with_reducible refine gate_callee (f := 25) rfl ?_); refine goesL_ (some 25) rfl rfl Tryd.func25 (by kernel_rfl) rfl #[.string (rdOf ByteArray.empty t128 x18_1), .slice Ao18 y132.length co18] rfl qa_ ?_; (with_reducible refine (date_digits.calls k1 (rdOf ByteArray.empty t128 x18_1) _ _ y132 t135 _ ?side1 ?side2 A10.out).mono ?_); (case side1 => repeat (first | exact (Kd.R_reads' HO134.out).2.2 | (with_reducible refine Kd.C_alloc ?_ _) | (with_reducible refine Kd.C_drewN ?_ _) | (with_reducible refine Kd.C_drew ?_))); (case side2 => exact (Kd.R_reads' HO134.out).2.1); rintro e w' ⟨rfl, ⟨nd, rfl⟩⟩; refine ⟨_, rfl, ?_⟩))
        go_ret
        exact ⟨qw_, qb_ HB.out⟩
       ·rw [if_neg c15] at H
        have c15b0 : decide (t135 < 0) = false := decide_eq_false c15
        clear c15
        by_cases c19 : x18_1 < 3
        ·rw [if_pos c19] at H
         have c19b0 : decide (x18_1 < 3) = true := decide_eq_true c19
         clear c19
         by_cases c21 : t135 > (ar3_ 23 59 a1 x18_1)
         ·rw [if_pos c21] at H
          have c21b0 : decide ((ar3_ 23 59 a1 x18_1) < t135) = true := decide_eq_true c21
          clear c21
          obtain rfl := Option.some.inj H
          have p131 : 0 ≤ (x18_1 : Int) := qd_
          have q131 : x18_1 < (t128.length : Int) := qd_
          obtain ⟨ad131, e131, hx131_0⟩ := Kd.at_string (Kd.R_reads' HO_16.out).2.2 x18_1 p131 q131
          cases e131
          replace p131 := eq_true p131
          replace q131 := eq_true q131
          go_wp2_with (first | ((with_reducible refine gate_dst (N := 24) rfl ?_); refine Kd.R_lit (Kd.int .i64) _ 3 ?hg (N := 24) ?hd (xs := ([2] : List Int)) (inner := [.int .i64 2]) (ok := fun _ => True) (okp := fun _ => True) ?hr ?hp (fun _ hk => hk) trivial (Below.refl _ _) (Nat.le_refl _) (by simp) ?_; (case hd => rfl); (case hg => rfl); (case hr => first | (go_simp; done) | (go_simp; rfl)); (case hp => exact (Reps.one (show Kd.M (Kd.int .i64) _ _ _ 2 [.int .i64 2] from rfl) (Reps.none _ _))); intro v133 w22 ho23 hb hg_ hnew_; clear hg_ hnew_; (first | rw [← Ny132.out] at ho23 | (simp only [Int.reduceToNat] at ho23; rw [← Ny132.out] at ho23)); have n0_ := Aside0.mk (Kd.R_below (ql_ HO_7.out) hb); have n1_ := Aside0.mk (Kd.R_below (ql_ HO_16.out) hb); have n2_ := Aside0.mk (Kd.R_lower ho23 (below_size (qb_ HB.out))); have n3_ := Aside0.mk (below_step (qb_ HB.out) hb); clear HO_7; clear HO_16; clear HB; have HO_7 := n0_; have HO_16 := n1_; have HO134 := n2_; have HB := n3_; clear n0_ n1_ n2_ n3_; clear hb ho23; obtain ⟨Ao24, co24, eo24⟩ := Kd.R_slice HO134.out; subst eo24) | ((with_reducible refine gate_callee (f := 25) rfl ?_); refine goesL_ (some 25) rfl rfl Tryd.func25 (by kernel_rfl) rfl #[.string (rdOf ByteArray.empty t128 x18_1), .slice Ao24 y132.length co24] rfl qa_ ?_; (with_reducible refine (date_digits.calls k1 (rdOf ByteArray.empty t128 x18_1) _ _ y132 t135 _ ?side1 ?side2 A10.out).mono ?_); (case side1 => repeat (first | exact (Kd.R_reads' HO134.out).2.2 | (with_reducible refine Kd.C_alloc ?_ _) | (with_reducible refine Kd.C_drewN ?_ _) | (with_reducible refine Kd.C_drew ?_))); (case side2 => exact (Kd.R_reads' HO134.out).2.1); rintro e w' ⟨rfl, ⟨nd, rfl⟩⟩; refine ⟨_, rfl, ?_⟩; have p20 : 0 ≤ (x18_1 : Int) := qd_; have q20 : (x18_1 : Int) < 3 := qd_; have ht20 := ar3_ix67 23 59 a1 x18_1 p20 q20; replace p20 := eq_true p20; replace q20 := eq_true q20))
          go_ret
          exact ⟨qw_, qb_ HB.out⟩
         ·rw [if_neg c21] at H
          have c21b0 : decide ((ar3_ 23 59 a1 x18_1) < t135) = false := decide_eq_false c21
          clear c21
          have H' := Aside0.mk H
          clear H
          have p131 : 0 ≤ (x18_1 : Int) := qd_
          have q131 : x18_1 < (t128.length : Int) := qd_
          obtain ⟨ad131, e131, hx131_0⟩ := Kd.at_string (Kd.R_reads' HO_16.out).2.2 x18_1 p131 q131
          cases e131
          replace p131 := eq_true p131
          replace q131 := eq_true q131
          go_wp2_with (first | ((with_reducible refine gate_dst (N := 24) rfl ?_); refine Kd.R_lit (Kd.int .i64) _ 3 ?hg (N := 24) ?hd (xs := ([2] : List Int)) (inner := [.int .i64 2]) (ok := fun _ => True) (okp := fun _ => True) ?hr ?hp (fun _ hk => hk) trivial (Below.refl _ _) (Nat.le_refl _) (by simp) ?_; (case hd => rfl); (case hg => rfl); (case hr => first | (go_simp; done) | (go_simp; rfl)); (case hp => exact (Reps.one (show Kd.M (Kd.int .i64) _ _ _ 2 [.int .i64 2] from rfl) (Reps.none _ _))); intro v133 w26 ho27 hb hg_ hnew_; clear hg_ hnew_; (first | rw [← Ny132.out] at ho27 | (simp only [Int.reduceToNat] at ho27; rw [← Ny132.out] at ho27)); have n0_ := Aside0.mk (Kd.R_below (ql_ HO_7.out) hb); have n1_ := Aside0.mk (Kd.R_below (ql_ HO_16.out) hb); have n2_ := Aside0.mk (Kd.R_lower ho27 (below_size (qb_ HB.out))); have n3_ := Aside0.mk (below_step (qb_ HB.out) hb); clear HO_7; clear HO_16; clear HB; have HO_7 := n0_; have HO_16 := n1_; have HO134 := n2_; have HB := n3_; clear n0_ n1_ n2_ n3_; clear hb ho27; obtain ⟨Ao28, co28, eo28⟩ := Kd.R_slice HO134.out; subst eo28) | ((with_reducible refine gate_callee (f := 25) rfl ?_); refine goesL_ (some 25) rfl rfl Tryd.func25 (by kernel_rfl) rfl #[.string (rdOf ByteArray.empty t128 x18_1), .slice Ao28 y132.length co28] rfl qa_ ?_; (with_reducible refine (date_digits.calls k1 (rdOf ByteArray.empty t128 x18_1) _ _ y132 t135 _ ?side1 ?side2 A10.out).mono ?_); (case side1 => repeat (first | exact (Kd.R_reads' HO134.out).2.2 | (with_reducible refine Kd.C_alloc ?_ _) | (with_reducible refine Kd.C_drewN ?_ _) | (with_reducible refine Kd.C_drew ?_))); (case side2 => exact (Kd.R_reads' HO134.out).2.1); rintro e w' ⟨rfl, ⟨nd, rfl⟩⟩; refine ⟨_, rfl, ?_⟩; have p20 : 0 ≤ (x18_1 : Int) := qd_; have q20 : (x18_1 : Int) < 3 := qd_; have ht20 := ar3_ix67 23 59 a1 x18_1 p20 q20; replace p20 := eq_true p20; replace q20 := eq_true q20; have p25 : 0 ≤ (x18_1 : Int) := qd_; have q25 : (x18_1 : Int) < 3 := qd_; have ht25 := ar3_ix67 3600 60 1 x18_1 p25 q25; replace p25 := eq_true p25; replace q25 := eq_true q25))
          go_roundg k1
          case measure => have := HK1.out; omega
          case rel => exact ⟨(wrap64 (x8_1 + (wrap64 (t135 * (ar3_ 3600 60 1 x18_1))))), (wrap64 (x18_1 + 1)), qr_, qr_, H', ⟨by have := HK1.out; omega⟩, ⟨ql_ HO_7.out⟩, ⟨ql_ HO_16.out⟩, ⟨qb_ HB.out⟩⟩
        ·rw [if_neg c19] at H
         exact absurd H (by simp)
     ·rw [if_neg c9] at H
      exact absurd H (by simp)
    ·rw [if_neg c8] at H
     exact absurd H (by simp)
   ·rw [if_neg c7] at H
    have c7b0 : decide (x18_1 < (t128.length : Int)) = false := decide_eq_false c7
    clear c7
    have H' := Aside0.mk H
    clear H
    go_wp2
    go_loopg [50] k1 (fun kq v50 w' => ∃ (x50_2 : Int), v50 = .int .i64 x50_2 ∧ Aside0 (date_clock.l1 kq t128 x8_1 l2 (l2.length : Int) x50_2 = some r) ∧ Aside0 (kq ≤ k1) ∧ Aside0 (Kd.R Kd.string 9 w' w.heap.size (fun _ => True) (.slice Ao6 t128.length co6) t128) ∧ Aside0 (Below w.heap.size w w'))
    case atStart => exact ⟨(0), qr_, H', ⟨Nat.le_refl _⟩, ⟨ql_ HO_7.out⟩, ⟨qb_ HB.out⟩⟩
    case round =>
     clear H'
     obtain ⟨x50_2, rfl, HA, HK2, HO_7, HB⟩ := hrel
     cases gk with
     | zero => exact absurd HA.out (by simp [date_clock.l1])
     | succ k2 =>
      have H := HA.out
      clear HA
      simp only [date_clock.l1] at H
      by_cases c29 : x50_2 < (l2.length : Int)
      ·rw [if_pos c29] at H
       have c29b0 : decide (x50_2 < (l2.length : Int)) = true := decide_eq_true c29
       clear c29
       by_cases c30 : 0 ≤ x50_2
       ·rw [if_pos c30] at H
        have c30b0 : decide (0 ≤ x50_2) = true := decide_eq_true c30
        clear c30
        by_cases c31 : x50_2 < (l2.length : Int)
        ·rw [if_pos c31] at H
         have c31b0 : decide (x50_2 < (l2.length : Int)) = true := decide_eq_true c31
         clear c31
         by_cases c32 : (t128.length : Int) = (rd l2 x50_2)
         ·rw [if_pos c32] at H
          have c32b0 : ((t128.length : Int) == (rd l2 x50_2)) = true := beq_iff_eq.mpr c32
          have c32b1 : ((t128.length : Int) != (rd l2 x50_2)) = false := bne_eq_false_iff_eq.mpr c32
          clear c32
          obtain rfl := Option.some.inj H
          have p136 : 0 ≤ (x50_2 : Int) := qd_
          have q136 : x50_2 < (l2.length : Int) := qd_
          obtain ⟨ad136, e136, hx136_0⟩ := Kd.at_int HR2.out x50_2 p136 q136
          cases e136
          replace hx136_0 := (HB.out.cell (World.block_lt_of_cell? w _ hx136_0)).trans hx136_0
          replace p136 := eq_true p136
          replace q136 := eq_true q136
          go_wp2
          go_ret
          exact ⟨qw_, qb_ HB.out⟩
         ·rw [if_neg c32] at H
          have c32b0 : ((t128.length : Int) == (rd l2 x50_2)) = false := beq_eq_false_iff_ne.mpr c32
          have c32b1 : ((t128.length : Int) != (rd l2 x50_2)) = true := bne_iff_ne.mpr c32
          have H' := Aside0.mk H
          clear H
          have p136 : 0 ≤ (x50_2 : Int) := qd_
          have q136 : x50_2 < (l2.length : Int) := qd_
          obtain ⟨ad136, e136, hx136_0⟩ := Kd.at_int HR2.out x50_2 p136 q136
          cases e136
          replace hx136_0 := (HB.out.cell (World.block_lt_of_cell? w _ hx136_0)).trans hx136_0
          replace p136 := eq_true p136
          replace q136 := eq_true q136
          go_wp2
          go_roundg k2
          case measure => have := HK1.out; have := HK2.out; omega
          case rel => exact ⟨(wrap64 (x50_2 + 1)), qr_, H', ⟨by have := HK1.out; have := HK2.out; omega⟩, ⟨ql_ HO_7.out⟩, ⟨qb_ HB.out⟩⟩
        ·rw [if_neg c31] at H
         exact absurd H (by simp)
       ·rw [if_neg c30] at H
        exact absurd H (by simp)
      ·rw [if_neg c29] at H
       have c29b0 : decide (x50_2 < (l2.length : Int)) = false := decide_eq_false c29
       clear c29
       obtain rfl := Option.some.inj H
       go_wp2
       go_ret
       exact ⟨qw_, qb_ HB.out⟩

/-! ### date_leap: function 56 -/
def date_leap.f (a0 : Int) : Option (Bool) := if (Int.tmod a0 4) = 0 then (if (Int.tmod a0 100) = 0 then (some ((Int.tmod a0 400) == 0)) else (some true)) else (some ((Int.tmod a0 400) == 0))
set_option maxHeartbeats 8000000 in
set_option maxRecDepth 100000 in
theorem date_leap.calls (a0 : Int) (r : Bool) (w : World) (h : date_leap.f a0 = some r) :
  Calls Tryd.prog 56 #[.int .i64 a0] w fun e w' => e = .returned (.bool r) ∧ Drawn0 w w' := by
 have H : (if (Int.tmod a0 4) = 0 then (if (Int.tmod a0 100) = 0 then (some ((Int.tmod a0 400) == 0)) else (some true)) else (some ((Int.tmod a0 400) == 0))) = some r := h
 clear h
 by_cases c2 : (Int.tmod a0 4) = 0
 ·rw [if_pos c2] at H
  have c2b0 : ((Int.tmod a0 4) == 0) = true := beq_iff_eq.mpr c2
  have c2b1 : ((Int.tmod a0 4) != 0) = false := bne_eq_false_iff_eq.mpr c2
  clear c2
  by_cases c3 : (Int.tmod a0 100) = 0
  ·rw [if_pos c3] at H
   have c3b0 : ((Int.tmod a0 100) == 0) = true := beq_iff_eq.mpr c3
   have c3b1 : ((Int.tmod a0 100) != 0) = false := bne_eq_false_iff_eq.mpr c3
   clear c3
   obtain rfl := Option.some.inj H
   go_enter Tryd.func56, Tryd.ntmps56
   go_wp2
   go_ret
   exact ⟨by first | rfl | (simp; done) | (simp [*]; done), by repeat (first | exact Drawn0.refl _ | apply Drawn0.step)⟩
  ·rw [if_neg c3] at H
   have c3b0 : ((Int.tmod a0 100) == 0) = false := beq_eq_false_iff_ne.mpr c3
   have c3b1 : ((Int.tmod a0 100) != 0) = true := bne_iff_ne.mpr c3
   obtain rfl := Option.some.inj H
   go_enter Tryd.func56, Tryd.ntmps56
   go_wp2
   go_ret
   exact ⟨by first | rfl | (simp; done) | (simp [*]; done), by repeat (first | exact Drawn0.refl _ | apply Drawn0.step)⟩
 ·rw [if_neg c2] at H
  have c2b0 : ((Int.tmod a0 4) == 0) = false := beq_eq_false_iff_ne.mpr c2
  have c2b1 : ((Int.tmod a0 4) != 0) = true := bne_iff_ne.mpr c2
  obtain rfl := Option.some.inj H
  go_enter Tryd.func56, Tryd.ntmps56
  go_wp2
  go_ret
  exact ⟨by first | rfl | (simp; done) | (simp [*]; done), by repeat (first | exact Drawn0.refl _ | apply Drawn0.step)⟩

/-! ### date_length: function 51 -/
def date_length.f (a0 : Int) (a1 : Int) : Option (Int) := if a1 = 1 then ((date_leap.f a0).bind fun t137 => (if t137 = true then (some 29) else (some 28))) else (if a1 = 3 then (some 30) else (if a1 = 5 then (some 30) else (if a1 = 8 then (some 30) else (if a1 = 10 then (some 30) else (some 31)))))
set_option maxHeartbeats 8000000 in
set_option maxRecDepth 100000 in
theorem date_length.calls (a0 : Int) (a1 : Int) (r : Int) (w : World) (h : date_length.f a0 a1 = some r) :
  Calls Tryd.prog 51 #[.int .i64 a0, .int .i64 a1] w fun e w' => e = .returned (.int .i64 r) ∧ Drawn0 w w' := by
 have H : (if a1 = 1 then ((date_leap.f a0).bind fun t137 => (if t137 = true then (some 29) else (some 28))) else (if a1 = 3 then (some 30) else (if a1 = 5 then (some 30) else (if a1 = 8 then (some 30) else (if a1 = 10 then (some 30) else (some 31)))))) = some r := h
 clear h
 by_cases c3 : a1 = 1
 ·rw [if_pos c3] at H
  have c3b0 : (a1 == 1) = true := beq_iff_eq.mpr c3
  have c3b1 : (a1 != 1) = false := bne_eq_false_iff_eq.mpr c3
  clear c3
  replace H := Option.bind_eq_some_iff.mp H
  obtain ⟨t137, A40, H⟩ := H
  replace H : (if t137 = true then (some 29) else (some 28)) = some r := H
  have A4 := Aside0.mk A40
  clear A40
  by_cases c5 : t137 = true
  ·subst c5
   have H1 : (some 29) = some r := by rw [if_pos rfl] at H; exact H
   clear H
   have H := H1
   clear H1
   obtain rfl := Option.some.inj H
   go_enter Tryd.func51, Tryd.ntmps51
   go_wp2_with (first | ((with_reducible refine gate_callee (f := 56) rfl ?_); refine goesL_ (some 9) rfl rfl Tryd.func56 (by kernel_rfl) rfl #[.int .i64 a0] rfl qa_ ?_; (with_reducible refine (date_leap.calls a0 true _ A4.out).mono ?_); rintro e w' ⟨rfl, ⟨nd, rfl⟩⟩; refine ⟨_, rfl, ?_⟩))
   go_ret
   exact ⟨by first | rfl | (simp; done) | (simp [*]; done), by repeat (first | exact Drawn0.refl _ | apply Drawn0.step)⟩
  ·replace c5 := Bool.eq_false_iff.mpr c5
   subst c5
   have H1 : (some 28) = some r := by rw [if_neg (show ¬ (false = true) by decide)] at H; exact H
   clear H
   have H := H1
   clear H1
   obtain rfl := Option.some.inj H
   go_enter Tryd.func51, Tryd.ntmps51
   go_wp2_with (first | ((with_reducible refine gate_callee (f := 56) rfl ?_); refine goesL_ (some 9) rfl rfl Tryd.func56 (by kernel_rfl) rfl #[.int .i64 a0] rfl qa_ ?_; (with_reducible refine (date_leap.calls a0 false _ A4.out).mono ?_); rintro e w' ⟨rfl, ⟨nd, rfl⟩⟩; refine ⟨_, rfl, ?_⟩))
   go_ret
   exact ⟨by first | rfl | (simp; done) | (simp [*]; done), by repeat (first | exact Drawn0.refl _ | apply Drawn0.step)⟩
 ·rw [if_neg c3] at H
  have c3b0 : (a1 == 1) = false := beq_eq_false_iff_ne.mpr c3
  have c3b1 : (a1 != 1) = true := bne_iff_ne.mpr c3
  by_cases c6 : a1 = 3
  ·rw [if_pos c6] at H
   have c6b0 : (a1 == 3) = true := beq_iff_eq.mpr c6
   have c6b1 : (a1 != 3) = false := bne_eq_false_iff_eq.mpr c6
   clear c6
   obtain rfl := Option.some.inj H
   go_enter Tryd.func51, Tryd.ntmps51
   go_wp2
   go_ret
   exact ⟨by first | rfl | (simp; done) | (simp [*]; done), by repeat (first | exact Drawn0.refl _ | apply Drawn0.step)⟩
  ·rw [if_neg c6] at H
   have c6b0 : (a1 == 3) = false := beq_eq_false_iff_ne.mpr c6
   have c6b1 : (a1 != 3) = true := bne_iff_ne.mpr c6
   by_cases c7 : a1 = 5
   ·rw [if_pos c7] at H
    have c7b0 : (a1 == 5) = true := beq_iff_eq.mpr c7
    have c7b1 : (a1 != 5) = false := bne_eq_false_iff_eq.mpr c7
    clear c7
    obtain rfl := Option.some.inj H
    go_enter Tryd.func51, Tryd.ntmps51
    go_wp2
    go_ret
    exact ⟨by first | rfl | (simp; done) | (simp [*]; done), by repeat (first | exact Drawn0.refl _ | apply Drawn0.step)⟩
   ·rw [if_neg c7] at H
    have c7b0 : (a1 == 5) = false := beq_eq_false_iff_ne.mpr c7
    have c7b1 : (a1 != 5) = true := bne_iff_ne.mpr c7
    by_cases c8 : a1 = 8
    ·rw [if_pos c8] at H
     have c8b0 : (a1 == 8) = true := beq_iff_eq.mpr c8
     have c8b1 : (a1 != 8) = false := bne_eq_false_iff_eq.mpr c8
     clear c8
     obtain rfl := Option.some.inj H
     go_enter Tryd.func51, Tryd.ntmps51
     go_wp2
     go_ret
     exact ⟨by first | rfl | (simp; done) | (simp [*]; done), by repeat (first | exact Drawn0.refl _ | apply Drawn0.step)⟩
    ·rw [if_neg c8] at H
     have c8b0 : (a1 == 8) = false := beq_eq_false_iff_ne.mpr c8
     have c8b1 : (a1 != 8) = true := bne_iff_ne.mpr c8
     by_cases c9 : a1 = 10
     ·rw [if_pos c9] at H
      have c9b0 : (a1 == 10) = true := beq_iff_eq.mpr c9
      have c9b1 : (a1 != 10) = false := bne_eq_false_iff_eq.mpr c9
      clear c9
      obtain rfl := Option.some.inj H
      go_enter Tryd.func51, Tryd.ntmps51
      go_wp2
      go_ret
      exact ⟨by first | rfl | (simp; done) | (simp [*]; done), by repeat (first | exact Drawn0.refl _ | apply Drawn0.step)⟩
     ·rw [if_neg c9] at H
      have c9b0 : (a1 == 10) = false := beq_eq_false_iff_ne.mpr c9
      have c9b1 : (a1 != 10) = true := bne_iff_ne.mpr c9
      obtain rfl := Option.some.inj H
      go_enter Tryd.func51, Tryd.ntmps51
      go_wp2
      go_ret
      exact ⟨by first | rfl | (simp; done) | (simp [*]; done), by repeat (first | exact Drawn0.refl _ | apply Drawn0.step)⟩

/-! ### date_ahead: function 52 -/
def date_ahead.f (a0 : Int) : Option (Int) := some (wrap64 ((wrap64 ((wrap64 ((wrap64 (365 * (wrap64 (a0 - 1)))) + (wrap64 (Int.tdiv (wrap64 (a0 - 1)) 4)))) - (wrap64 (Int.tdiv (wrap64 (a0 - 1)) 100)))) + (wrap64 (Int.tdiv (wrap64 (a0 - 1)) 400))))
set_option maxHeartbeats 8000000 in
set_option maxRecDepth 100000 in
theorem date_ahead.calls (a0 : Int) (r : Int) (w : World) (h : date_ahead.f a0 = some r) :
  Calls Tryd.prog 52 #[.int .i64 a0] w fun e w' => e = .returned (.int .i64 r) ∧ Drawn0 w w' := by
 have H : (some (wrap64 ((wrap64 ((wrap64 ((wrap64 (365 * (wrap64 (a0 - 1)))) + (wrap64 (Int.tdiv (wrap64 (a0 - 1)) 4)))) - (wrap64 (Int.tdiv (wrap64 (a0 - 1)) 100)))) + (wrap64 (Int.tdiv (wrap64 (a0 - 1)) 400))))) = some r := h
 clear h
 obtain rfl := Option.some.inj H
 go_enter Tryd.func52, Tryd.ntmps52
 go_wp2
 go_ret
 exact ⟨by first | rfl | (simp; done) | (simp [*]; done), by repeat (first | exact Drawn0.refl _ | apply Drawn0.step)⟩

end Go.Proofs.YtmbiggcapakjjaaDoor.P
