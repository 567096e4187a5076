-- Written by a program of this session (wip/tools/mk.sh) for this claim: it runs the kit's print with contracts of our own. Lean checks it.
import Derived.Test.YtmdhggiffdkmfaaPx0
import Derived.Test.YtmdhggiffdkmfaaZStr
import Derived.Test.YtmdhggiffdkmfaaPx3
import Derived.Test.YtmdhggiffdkmfaaPx5
import Derived.Test.YtmdhggiffdkmfaaPx6
import Derived.Test.YtmdhggiffdkmfaaPx8
namespace Go.Proofs.Ytmdhggiffdkmfaa.P
open Go.RowKit Go.Proofs.YtmdhggiffdkmfaaW.PrintWords Go.Proofs.YtmdhggiffdkmfaaW.PrintLast Go.Proofs.YtmdhggiffdkmfaaW.PrintMore
attribute [-simp] Int.tmod_tmod_of_dvd
attribute [local go_sem] max2_int min2_int max_two min_two max_three min_three max_four min_four   -- for this text's walks alone
set_option linter.unusedVariables false
set_option linter.unusedSimpArgs false

/-! ### letterboxref01_Atom: function 30 -/
def letterboxref01_Atom.f (k : Nat) (a0 : Int) : Option (Bool) := (letterboxref01_In.f k (⟨#[40, 41, 123, 37, 42, 34, 92, 93]⟩ : ByteArray) a0).bind fun t209 => (if a0 > 32 then (if a0 < 127 then (some (!t209)) else (some false)) else (some false))
theorem letterboxref01_Atom.mono : ∀ a0 k, LeO (letterboxref01_Atom.f k a0) (letterboxref01_Atom.f (k + 1) a0) := by
  intro a0 k
  unfold letterboxref01_Atom.f
  repeat' first
      | (with_reducible exact letterboxref01_In.mono _ _ _)
      | (with_reducible exact LeO.refl _)
      | (with_reducible exact LeO.none _)
      | (with_reducible refine LeO.ite ?_ ?_)
      | (with_reducible refine LeO.bind ?_ (fun _ => ?_))
      | exact letterboxref01_In.mono _ _ _
      | exact LeO.none _
      | refine LeO.ite ?_ ?_
      | refine LeO.bind ?_ (fun _ => ?_)
set_option maxHeartbeats 8000000 in
set_option maxRecDepth 100000 in
theorem letterboxref01_Atom.calls (k : Nat) (a0 : Int) (r : Bool) (w : World) (h : letterboxref01_Atom.f k a0 = some r) :
    Calls Try.prog 30 #[.int .u8 a0] w fun e w' => e = .returned (.bool r) ∧ Drawn0 w w' := by
  have H : ((letterboxref01_In.f k (⟨#[40, 41, 123, 37, 42, 34, 92, 93]⟩ : ByteArray) a0).bind fun t209 => (if a0 > 32 then (if a0 < 127 then (some (!t209)) else (some false)) else (some false))) = some r := h
  clear h
  replace H := Option.bind_eq_some_iff.mp H
  obtain ⟨t209, A20, H⟩ := H
  replace H : (if a0 > 32 then (if a0 < 127 then (some (!t209)) else (some false)) else (some false)) = some r := H
  have A2 := Aside0.mk A20
  clear A20
  by_cases c3 : a0 > 32
  · rw [if_pos c3] at H
    have c3b0 : decide (32 < a0) = true := decide_eq_true c3
    clear c3
    by_cases c4 : a0 < 127
    · rw [if_pos c4] at H
      have c4b0 : decide (a0 < 127) = true := decide_eq_true c4
      clear c4
      obtain rfl := Option.some.inj H
      go_enter Try.func30, Try.ntmps30
      go_wp2_with (first | ((with_reducible refine gate_callee (f := 27) rfl ?_); refine goesL_ (some 5) rfl rfl Try.func27 (by kernel_rfl) rfl #[.string (⟨#[40, 41, 123, 37, 42, 34, 92, 93]⟩ : ByteArray), .int .u8 a0] rfl (by (try simp only [List.map_toArray, List.map_cons, List.map_nil]); first | done | rfl | (simp only [List.length_drop, List.length_take]; rfl)) ?_; (with_reducible refine (letterboxref01_In.calls k (⟨#[40, 41, 123, 37, 42, 34, 92, 93]⟩ : ByteArray) a0 t209 _ A2.out).mono ?_); rintro e w' ⟨rfl, ⟨nd, rfl⟩⟩; refine ⟨_, rfl, ?_⟩))
      go_ret
      exact ⟨by first | rfl | (simp; done) | (simp [*]; done), by repeat (first | exact Drawn0.refl _ | apply Drawn0.step)⟩
    · rw [if_neg c4] at H
      have c4b0 : decide (a0 < 127) = false := decide_eq_false c4
      clear c4
      obtain rfl := Option.some.inj H
      go_enter Try.func30, Try.ntmps30
      go_wp2_with (first | ((with_reducible refine gate_callee (f := 27) rfl ?_); refine goesL_ (some 5) rfl rfl Try.func27 (by kernel_rfl) rfl #[.string (⟨#[40, 41, 123, 37, 42, 34, 92, 93]⟩ : ByteArray), .int .u8 a0] rfl (by (try simp only [List.map_toArray, List.map_cons, List.map_nil]); first | done | rfl | (simp only [List.length_drop, List.length_take]; rfl)) ?_; (with_reducible refine (letterboxref01_In.calls k (⟨#[40, 41, 123, 37, 42, 34, 92, 93]⟩ : ByteArray) a0 t209 _ A2.out).mono ?_); rintro e w' ⟨rfl, ⟨nd, rfl⟩⟩; refine ⟨_, rfl, ?_⟩))
      go_ret
      exact ⟨by first | rfl | (simp; done) | (simp [*]; done), by repeat (first | exact Drawn0.refl _ | apply Drawn0.step)⟩
  · rw [if_neg c3] at H
    have c3b0 : decide (32 < a0) = false := decide_eq_false c3
    clear c3
    obtain rfl := Option.some.inj H
    go_enter Try.func30, Try.ntmps30
    go_wp2_with (first | ((with_reducible refine gate_callee (f := 27) rfl ?_); refine goesL_ (some 5) rfl rfl Try.func27 (by kernel_rfl) rfl #[.string (⟨#[40, 41, 123, 37, 42, 34, 92, 93]⟩ : ByteArray), .int .u8 a0] rfl (by (try simp only [List.map_toArray, List.map_cons, List.map_nil]); first | done | rfl | (simp only [List.length_drop, List.length_take]; rfl)) ?_; (with_reducible refine (letterboxref01_In.calls k (⟨#[40, 41, 123, 37, 42, 34, 92, 93]⟩ : ByteArray) a0 t209 _ A2.out).mono ?_); rintro e w' ⟨rfl, ⟨nd, rfl⟩⟩; refine ⟨_, rfl, ?_⟩))
    go_ret
    exact ⟨by first | rfl | (simp; done) | (simp [*]; done), by repeat (first | exact Drawn0.refl _ | apply Drawn0.step)⟩

/-! ### letterboxref18_Astring: function 15 -/
def letterboxref18_Astring.l0 : Nat → ByteArray → Bool → Int → Option (ByteArray)
  | 0, _, _, _ => none
  | k + 1, x0, x3, x4 => if x4 < (x0.size : Int) then (if 0 ≤ x4 then ((letterboxref01_Atom.f k (bt x0 x4)).bind fun t210 => (if x3 = true then (if t210 = true then (letterboxref18_Astring.l0 k x0 ((bt x0 x4) != 91) (wrap64 (x4 + 1))) else (letterboxref18_Astring.l0 k x0 false (wrap64 (x4 + 1)))) else (letterboxref18_Astring.l0 k x0 false (wrap64 (x4 + 1))))) else (none)) else (if x3 = true then (some x0) else ((letterboxref18_String.f k x0).bind fun t211 => (some t211)))
def letterboxref18_Astring.f (k : Nat) (a0 : ByteArray) : Option (ByteArray) := letterboxref18_Astring.l0 k a0 (a0.toList != ([] : List UInt8)) 0
theorem letterboxref18_Astring.mono_l : ∀ k, (∀ y0 y1 y2, LeO (letterboxref18_Astring.l0 k y0 y1 y2) (letterboxref18_Astring.l0 (k + 1) y0 y1 y2))
  | 0 => fun _ _ _ r h => by simp [letterboxref18_Astring.l0] at h
  | k + 1 => by
    have ih0 := letterboxref18_Astring.mono_l k
    · intro y0 y1 y2
      unfold letterboxref18_Astring.l0
      repeat' first
      | (with_reducible exact ih0 _ _ _)
      | (with_reducible exact letterboxref01_Atom.mono _ _)
      | (with_reducible exact letterboxref18_String.mono _ _)
      | (with_reducible exact LeO.refl _)
      | (with_reducible exact LeO.none _)
      | (with_reducible refine LeO.ite ?_ ?_)
      | (with_reducible refine LeO.bind ?_ (fun _ => ?_))
      | exact ih0 _ _ _
      | exact letterboxref01_Atom.mono _ _
      | exact letterboxref18_String.mono _ _
      | exact LeO.none _
      | refine LeO.ite ?_ ?_
      | refine LeO.bind ?_ (fun _ => ?_)
theorem letterboxref18_Astring.mono : ∀ a0 k, LeO (letterboxref18_Astring.f k a0) (letterboxref18_Astring.f (k + 1) a0) := by
  intro a0 k
  have ih0 := letterboxref18_Astring.mono_l k
  unfold letterboxref18_Astring.f
  repeat' first
      | (with_reducible exact ih0 _ _ _)
      | (with_reducible exact letterboxref01_Atom.mono _ _)
      | (with_reducible exact letterboxref18_String.mono _ _)
      | (with_reducible exact LeO.refl _)
      | (with_reducible exact LeO.none _)
      | (with_reducible refine LeO.ite ?_ ?_)
      | (with_reducible refine LeO.bind ?_ (fun _ => ?_))
      | exact ih0 _ _ _
      | exact letterboxref01_Atom.mono _ _
      | exact letterboxref18_String.mono _ _
      | exact LeO.none _
      | refine LeO.ite ?_ ?_
      | refine LeO.bind ?_ (fun _ => ?_)
set_option maxHeartbeats 8000000 in
set_option maxRecDepth 100000 in
theorem letterboxref18_Astring.calls (k : Nat) (a0 : ByteArray) (r : ByteArray) (w : World) (h : letterboxref18_Astring.f k a0 = some r) :
    Calls Try.prog 15 #[.string a0] w fun e w' => e = .returned (.string r) ∧ Below w.heap.size w w' := by
  have HB := Aside0.mk (Below.refl w.heap.size w)
  have H : (letterboxref18_Astring.l0 k a0 (a0.toList != ([] : List UInt8)) 0) = some r := h
  clear h
  have H' := Aside0.mk H
  clear H
  go_enter Try.func15, Try.ntmps15
  go_wp2
  go_loopg [3, 4] k (fun kq v3 v4 w' => ∃ (x3_1 : Bool) (x4_1 : Int), v3 = .bool x3_1 ∧ v4 = .int .i64 x4_1 ∧ Aside0 (letterboxref18_Astring.l0 kq a0 x3_1 x4_1 = some r) ∧ Aside0 (kq ≤ k) ∧ Aside0 (Below w.heap.size w w'))
  case atStart => exact ⟨((a0.toList != ([] : List UInt8))), (0), (by first | rfl | (simp; done) | (simp [*]; done) | (cases h_ : ByteArray.toList a0 <;> simp [h_]; done)), (by first | rfl | (simp; done) | (simp [*]; done) | (cases h_ : ByteArray.toList a0 <;> simp [h_]; done)), H', ⟨Nat.le_refl _⟩, ⟨by repeat (first | (with_reducible first | exact HB.out | apply below_alloc | apply pw_below_drewN | apply below_drew1) | exact HB.out)⟩⟩
  case round =>
    clear H'
    try clear c1
    obtain ⟨x3_1, x4_1, rfl, rfl, HA, HK1, HB⟩ := hrel
    cases gk with
    | zero => exact absurd HA.out (by simp [letterboxref18_Astring.l0])
    | succ k1 =>
      have H := HA.out
      clear HA
      simp only [letterboxref18_Astring.l0] at H
      by_cases c2 : x4_1 < (a0.size : Int)
      · rw [if_pos c2] at H
        have c2b0 : decide (x4_1 < (a0.size : Int)) = true := decide_eq_true c2
        clear c2
        by_cases c3 : 0 ≤ x4_1
        · rw [if_pos c3] at H
          have c3b0 : decide (0 ≤ x4_1) = true := decide_eq_true c3
          clear c3
          replace H := Option.bind_eq_some_iff.mp H
          obtain ⟨t210, A50, H⟩ := H
          replace H : (if x3_1 = true then (if t210 = true then (letterboxref18_Astring.l0 k1 a0 ((bt a0 x4_1) != 91) (wrap64 (x4_1 + 1))) else (letterboxref18_Astring.l0 k1 a0 false (wrap64 (x4_1 + 1)))) else (letterboxref18_Astring.l0 k1 a0 false (wrap64 (x4_1 + 1)))) = some r := H
          have A5 := Aside0.mk A50
          clear A50
          by_cases c6 : x3_1 = true
          · subst c6
            have H1 : (if t210 = true then (letterboxref18_Astring.l0 k1 a0 ((bt a0 x4_1) != 91) (wrap64 (x4_1 + 1))) else (letterboxref18_Astring.l0 k1 a0 false (wrap64 (x4_1 + 1)))) = some r := by rw [if_pos rfl] at H; exact H
            clear H
            have H := H1
            clear H1
            by_cases c7 : t210 = true
            · subst c7
              have H1 : (letterboxref18_Astring.l0 k1 a0 ((bt a0 x4_1) != 91) (wrap64 (x4_1 + 1))) = some r := by rw [if_pos rfl] at H; exact H
              clear H
              have H := H1
              clear H1
              have H' := Aside0.mk H
              clear H
              have p4 : 0 ≤ (x4_1 : Int) := of_decide_eq_true (by first | (with_reducible assumption) | assumption)
              have q4 : x4_1 < (a0.size : Int) := of_decide_eq_true (by first | (with_reducible assumption) | assumption)
              have hx4 := bt_at a0 x4_1
              replace p4 := eq_true p4
              replace q4 := eq_true q4
              go_wp2_with (first | ((with_reducible refine gate_callee (f := 30) rfl ?_); refine goesL_ (some 17) rfl rfl Try.func30 (by kernel_rfl) rfl #[.int .u8 (bt a0 x4_1)] rfl (by (try simp only [List.map_toArray, List.map_cons, List.map_nil]); first | done | rfl | (simp only [List.length_drop, List.length_take]; rfl)) ?_; (with_reducible refine (letterboxref01_Atom.calls k1 (bt a0 x4_1) true _ A5.out).mono ?_); rintro e w' ⟨rfl, ⟨nd, rfl⟩⟩; refine ⟨_, rfl, ?_⟩; have p8 : 0 ≤ (x4_1 : Int) := of_decide_eq_true (by first | (with_reducible assumption) | assumption); have q8 : x4_1 < (a0.size : Int) := of_decide_eq_true (by first | (with_reducible assumption) | assumption); have hx8 := bt_at a0 x4_1; replace p8 := eq_true p8; replace q8 := eq_true q8))
              go_roundg k1
              case measure => have := HK1.out; omega
              case rel => exact ⟨(((bt a0 x4_1) != 91)), (wrap64 (x4_1 + 1)), (by first | rfl | (simp; done) | (simp [*]; done)), (by first | rfl | (simp; done) | (simp [*]; done)), H', ⟨by have := HK1.out; omega⟩, ⟨by repeat (first | (with_reducible first | exact HB.out | apply below_alloc | apply pw_below_drewN | apply below_drew1) | exact HB.out)⟩⟩
            · replace c7 := Bool.eq_false_iff.mpr c7
              subst c7
              have H1 : (letterboxref18_Astring.l0 k1 a0 false (wrap64 (x4_1 + 1))) = some r := by rw [if_neg (show ¬ (false = true) by decide)] at H; exact H
              clear H
              have H := H1
              clear H1
              have H' := Aside0.mk H
              clear H
              have p4 : 0 ≤ (x4_1 : Int) := of_decide_eq_true (by first | (with_reducible assumption) | assumption)
              have q4 : x4_1 < (a0.size : Int) := of_decide_eq_true (by first | (with_reducible assumption) | assumption)
              have hx4 := bt_at a0 x4_1
              replace p4 := eq_true p4
              replace q4 := eq_true q4
              go_wp2_with (first | ((with_reducible refine gate_callee (f := 30) rfl ?_); refine goesL_ (some 17) rfl rfl Try.func30 (by kernel_rfl) rfl #[.int .u8 (bt a0 x4_1)] rfl (by (try simp only [List.map_toArray, List.map_cons, List.map_nil]); first | done | rfl | (simp only [List.length_drop, List.length_take]; rfl)) ?_; (with_reducible refine (letterboxref01_Atom.calls k1 (bt a0 x4_1) false _ A5.out).mono ?_); rintro e w' ⟨rfl, ⟨nd, rfl⟩⟩; refine ⟨_, rfl, ?_⟩))
              go_roundg k1
              case measure => have := HK1.out; omega
              case rel => exact ⟨(false), (wrap64 (x4_1 + 1)), (by first | rfl | (simp; done) | (simp [*]; done)), (by first | rfl | (simp; done) | (simp [*]; done)), H', ⟨by have := HK1.out; omega⟩, ⟨by repeat (first | (with_reducible first | exact HB.out | apply below_alloc | apply pw_below_drewN | apply below_drew1) | exact HB.out)⟩⟩
          · replace c6 := Bool.eq_false_iff.mpr c6
            subst c6
            have H1 : (letterboxref18_Astring.l0 k1 a0 false (wrap64 (x4_1 + 1))) = some r := by rw [if_neg (show ¬ (false = true) by decide)] at H; exact H
            clear H
            have H := H1
            clear H1
            have H' := Aside0.mk H
            clear H
            have p4 : 0 ≤ (x4_1 : Int) := of_decide_eq_true (by first | (with_reducible assumption) | assumption)
            have q4 : x4_1 < (a0.size : Int) := of_decide_eq_true (by first | (with_reducible assumption) | assumption)
            have hx4 := bt_at a0 x4_1
            replace p4 := eq_true p4
            replace q4 := eq_true q4
            go_wp2_with (first | ((with_reducible refine gate_callee (f := 30) rfl ?_); refine goesL_ (some 17) rfl rfl Try.func30 (by kernel_rfl) rfl #[.int .u8 (bt a0 x4_1)] rfl (by (try simp only [List.map_toArray, List.map_cons, List.map_nil]); first | done | rfl | (simp only [List.length_drop, List.length_take]; rfl)) ?_; (with_reducible refine (letterboxref01_Atom.calls k1 (bt a0 x4_1) t210 _ A5.out).mono ?_); rintro e w' ⟨rfl, ⟨nd, rfl⟩⟩; refine ⟨_, rfl, ?_⟩))
            go_roundg k1
            case measure => have := HK1.out; omega
            case rel => exact ⟨(false), (wrap64 (x4_1 + 1)), (by first | rfl | (simp; done) | (simp [*]; done)), (by first | rfl | (simp; done) | (simp [*]; done)), H', ⟨by have := HK1.out; omega⟩, ⟨by repeat (first | (with_reducible first | exact HB.out | apply below_alloc | apply pw_below_drewN | apply below_drew1) | exact HB.out)⟩⟩
        · rw [if_neg c3] at H
          exact absurd H (by simp)
      · rw [if_neg c2] at H
        have c2b0 : decide (x4_1 < (a0.size : Int)) = false := decide_eq_false c2
        clear c2
        by_cases c9 : x3_1 = true
        · subst c9
          have H1 : (some a0) = some r := by rw [if_pos rfl] at H; exact H
          clear H
          have H := H1
          clear H1
          obtain rfl := Option.some.inj H
          go_wp2
          go_ret
          exact ⟨by first | rfl | (simp [errW_none, errW_some] <;> rfl) | (simp [*, errW_none, errW_some] <;> rfl), by repeat (first | (with_reducible first | exact HB.out | apply below_alloc | apply pw_below_drewN | apply below_drew1) | exact HB.out)⟩
        · replace c9 := Bool.eq_false_iff.mpr c9
          subst c9
          have H1 : ((letterboxref18_String.f k1 a0).bind fun t211 => (some t211)) = some r := by rw [if_neg (show ¬ (false = true) by decide)] at H; exact H
          clear H
          have H := H1
          clear H1
          replace H := Option.bind_eq_some_iff.mp H
          obtain ⟨t211, A100, H⟩ := H
          replace H : (some t211) = some r := H
          have A10 := Aside0.mk A100
          clear A100
          obtain rfl := Option.some.inj H
          go_wp2_with (first | ((with_reducible refine gate_callee (f := 13) rfl ?_); refine goesL_ (some 31) rfl rfl Try.func13 (by kernel_rfl) rfl #[.string a0] rfl (by (try simp only [List.map_toArray, List.map_cons, List.map_nil]); first | done | rfl | (simp only [List.length_drop, List.length_take]; rfl)) ?_; (with_reducible refine (letterboxref18_String.calls k1 a0 t211 _ A10.out).mono ?_); rintro e w11 ⟨rfl, hb⟩; refine ⟨_, rfl, ?_⟩; have n0_ := Aside0.mk (below_step (by repeat (first | (with_reducible first | exact HB.out | apply below_alloc | apply pw_below_drewN | apply below_drew1) | exact HB.out)) hb); clear HB; have HB := n0_; clear n0_; (try clear hb); (try clear hb2); (try clear hk); (try clear hi)))
          go_ret
          exact ⟨by first | rfl | (simp [errW_none, errW_some] <;> rfl) | (simp [*, errW_none, errW_some] <;> rfl), by repeat (first | (with_reducible first | exact HB.out | apply below_alloc | apply pw_below_drewN | apply below_drew1) | exact HB.out)⟩

/-! ### letterboxlaw18_WireStrings: function 5 -/
mutual
def letterboxlaw18_WireStrings.j0 : Nat → ByteArray → Bool → Option (Bool)
  | 0, _, _ => none
  | k + 1, x0, x1 => (wire_String.f k x0).bind fun t213 => ((letterboxref18_String.f k x0).bind fun t214 => (if t213.toList = t214.toList then ((wire_Astring.f k x0).bind fun t215 => ((letterboxref18_Astring.f k x0).bind fun t216 => (if t215.toList = t216.toList then (if x1 = true then ((wire_NString.f k x0 x1).bind fun t217 => ((wire_String.f k x0).bind fun t218 => (if t217.toList = t218.toList then (letterboxlaw18_WireStrings.j1 k x0 false) else (letterboxlaw18_WireStrings.j1 k x0 true)))) else ((wire_NString.f k x0 x1).bind fun t219 => (letterboxlaw18_WireStrings.j1 k x0 (t219.toList != ([78, 73, 76] : List UInt8))))) else (letterboxlaw18_WireStrings.j1 k x0 true)))) else (letterboxlaw18_WireStrings.j1 k x0 true)))
def letterboxlaw18_WireStrings.j1 : Nat → ByteArray → Bool → Option (Bool)
  | 0, _, _ => none
  | k + 1, x0, x62 => if x62 = true then (some false) else ((wire_String.f k x0).bind fun t220 => (if t220.size ≤ 9223372036854775807 then ((wire_Tokens.f k (bytesOf t220)).bind fun bt224 => ((wire_Astring.f k x0).bind fun t228 => (if t228.size + 2 ≤ 9223372036854775807 then (if (t228 ++ (⟨#[32, 120]⟩ : ByteArray)).size ≤ 9223372036854775807 then ((wire_Tokens.f k (bytesOf (t228 ++ (⟨#[32, 120]⟩ : ByteArray)))).bind fun bt232 => (if bt224.2 = 0 then (if bt232.2 = 0 then (if (bt224.1.length : Int) = 1 then (if 0 < (bt224.1.length : Int) then (if ((rd_T43 bt224.1 0).f0) = 2 then (if ((rd_T43 bt224.1 0).f1).toList = x0.toList then (if (bt232.1.length : Int) = 3 then (if 0 < (bt232.1.length : Int) then (if ((rd_T43 bt232.1 0).f1).toList = x0.toList then (if 1 < (bt232.1.length : Int) then (some (((rd_T43 bt232.1 1).f0) == 5)) else (none)) else (some false)) else (none)) else (some false)) else (some false)) else (some false)) else (none)) else (some false)) else (some false)) else (some false))) else (none)) else (none)))) else (none)))
end
def letterboxlaw18_WireStrings.f (k : Nat) (a0 : ByteArray) (a1 : Bool) (a2 : Bool) : Option (Bool) := (letterboxlaw18_awake.f).bind fun t212 => (if t212 = true then (if (a0.size : Int) > 300 then (some true) else (if a2 = true then (if a0.size + a0.size ≤ 9223372036854775807 then (if (a0 ++ a0).size + a0.size ≤ 9223372036854775807 then (if ((a0 ++ a0) ++ a0).size + a0.size ≤ 9223372036854775807 then (if (((a0 ++ a0) ++ a0) ++ a0).size + a0.size ≤ 9223372036854775807 then (if ((((a0 ++ a0) ++ a0) ++ a0) ++ a0).size + a0.size ≤ 9223372036854775807 then (letterboxlaw18_WireStrings.j0 k (((((a0 ++ a0) ++ a0) ++ a0) ++ a0) ++ a0) a1) else (none)) else (none)) else (none)) else (none)) else (none)) else (letterboxlaw18_WireStrings.j0 k a0 a1))) else (some false))
theorem letterboxlaw18_WireStrings.mono_l : ∀ k, (∀ y0 y1, LeO (letterboxlaw18_WireStrings.j0 k y0 y1) (letterboxlaw18_WireStrings.j0 (k + 1) y0 y1)) ∧ (∀ y0 y1, LeO (letterboxlaw18_WireStrings.j1 k y0 y1) (letterboxlaw18_WireStrings.j1 (k + 1) y0 y1))
  | 0 => ⟨fun _ _ r h => by simp [letterboxlaw18_WireStrings.j0] at h, fun _ _ r h => by simp [letterboxlaw18_WireStrings.j1] at h⟩
  | k + 1 => by
    obtain ⟨ih0, ih1⟩ := letterboxlaw18_WireStrings.mono_l k
    refine ⟨?_, ?_⟩
    · intro y0 y1
      unfold letterboxlaw18_WireStrings.j0
      repeat' first
      | (with_reducible exact ih0 _ _)
      | (with_reducible exact ih1 _ _)
      | (with_reducible exact letterboxref18_Astring.mono _ _)
      | (with_reducible exact letterboxref18_String.mono _ _)
      | (with_reducible exact wire_Astring.mono _ _)
      | (with_reducible exact wire_NString.mono _ _ _)
      | (with_reducible exact wire_String.mono _ _)
      | (with_reducible exact wire_Tokens.mono _ _)
      | (with_reducible exact LeO.refl _)
      | (with_reducible exact LeO.none _)
      | (with_reducible refine LeO.ite ?_ ?_)
      | (with_reducible refine LeO.bind ?_ (fun _ => ?_))
      | exact ih0 _ _
      | exact ih1 _ _
      | exact letterboxref18_Astring.mono _ _
      | exact letterboxref18_String.mono _ _
      | exact wire_Astring.mono _ _
      | exact wire_NString.mono _ _ _
      | exact wire_String.mono _ _
      | exact wire_Tokens.mono _ _
      | exact LeO.none _
      | refine LeO.ite ?_ ?_
      | refine LeO.bind ?_ (fun _ => ?_)
    · intro y0 y1
      unfold letterboxlaw18_WireStrings.j1
      repeat' first
      | (with_reducible exact ih0 _ _)
      | (with_reducible exact ih1 _ _)
      | (with_reducible exact letterboxref18_Astring.mono _ _)
      | (with_reducible exact letterboxref18_String.mono _ _)
      | (with_reducible exact wire_Astring.mono _ _)
      | (with_reducible exact wire_NString.mono _ _ _)
      | (with_reducible exact wire_String.mono _ _)
      | (with_reducible exact wire_Tokens.mono _ _)
      | (with_reducible exact LeO.refl _)
      | (with_reducible exact LeO.none _)
      | (with_reducible refine LeO.ite ?_ ?_)
      | (with_reducible refine LeO.bind ?_ (fun _ => ?_))
      | exact ih0 _ _
      | exact ih1 _ _
      | exact letterboxref18_Astring.mono _ _
      | exact letterboxref18_String.mono _ _
      | exact wire_Astring.mono _ _
      | exact wire_NString.mono _ _ _
      | exact wire_String.mono _ _
      | exact wire_Tokens.mono _ _
      | exact LeO.none _
      | refine LeO.ite ?_ ?_
      | refine LeO.bind ?_ (fun _ => ?_)
theorem letterboxlaw18_WireStrings.mono : ∀ a0 a1 a2 k, LeO (letterboxlaw18_WireStrings.f k a0 a1 a2) (letterboxlaw18_WireStrings.f (k + 1) a0 a1 a2) := by
  intro a0 a1 a2 k
  obtain ⟨ih0, ih1⟩ := letterboxlaw18_WireStrings.mono_l k
  unfold letterboxlaw18_WireStrings.f
  repeat' first
      | (with_reducible exact ih0 _ _)
      | (with_reducible exact ih1 _ _)
      | (with_reducible exact letterboxref18_Astring.mono _ _)
      | (with_reducible exact letterboxref18_String.mono _ _)
      | (with_reducible exact wire_Astring.mono _ _)
      | (with_reducible exact wire_NString.mono _ _ _)
      | (with_reducible exact wire_String.mono _ _)
      | (with_reducible exact wire_Tokens.mono _ _)
      | (with_reducible exact LeO.refl _)
      | (with_reducible exact LeO.none _)
      | (with_reducible refine LeO.ite ?_ ?_)
      | (with_reducible refine LeO.bind ?_ (fun _ => ?_))
      | exact ih0 _ _
      | exact ih1 _ _
      | exact letterboxref18_Astring.mono _ _
      | exact letterboxref18_String.mono _ _
      | exact wire_Astring.mono _ _
      | exact wire_NString.mono _ _ _
      | exact wire_String.mono _ _
      | exact wire_Tokens.mono _ _
      | exact LeO.none _
      | refine LeO.ite ?_ ?_
      | refine LeO.bind ?_ (fun _ => ?_)
set_option maxHeartbeats 8000000 in
set_option maxRecDepth 100000 in
theorem letterboxlaw18_WireStrings.calls (k : Nat) (a0 : ByteArray) (a1 : Bool) (a2 : Bool) (r : Bool) (w : World) (h : letterboxlaw18_WireStrings.f k a0 a1 a2 = some r) :
    Calls Try.prog 5 #[.string a0, .bool a1, .bool a2] w fun e w' => e = .returned (.bool r) ∧ Below w.heap.size w w' := by
  have HB := Aside0.mk (Below.refl w.heap.size w)
  have H : ((letterboxlaw18_awake.f).bind fun t212 => (if t212 = true then (if (a0.size : Int) > 300 then (some true) else (if a2 = true then (if a0.size + a0.size ≤ 9223372036854775807 then (if (a0 ++ a0).size + a0.size ≤ 9223372036854775807 then (if ((a0 ++ a0) ++ a0).size + a0.size ≤ 9223372036854775807 then (if (((a0 ++ a0) ++ a0) ++ a0).size + a0.size ≤ 9223372036854775807 then (if ((((a0 ++ a0) ++ a0) ++ a0) ++ a0).size + a0.size ≤ 9223372036854775807 then (letterboxlaw18_WireStrings.j0 k (((((a0 ++ a0) ++ a0) ++ a0) ++ a0) ++ a0) a1) else (none)) else (none)) else (none)) else (none)) else (none)) else (letterboxlaw18_WireStrings.j0 k a0 a1))) else (some false))) = some r := h
  clear h
  replace H := Option.bind_eq_some_iff.mp H
  obtain ⟨t212, A40, H⟩ := H
  replace H : (if t212 = true then (if (a0.size : Int) > 300 then (some true) else (if a2 = true then (if a0.size + a0.size ≤ 9223372036854775807 then (if (a0 ++ a0).size + a0.size ≤ 9223372036854775807 then (if ((a0 ++ a0) ++ a0).size + a0.size ≤ 9223372036854775807 then (if (((a0 ++ a0) ++ a0) ++ a0).size + a0.size ≤ 9223372036854775807 then (if ((((a0 ++ a0) ++ a0) ++ a0) ++ a0).size + a0.size ≤ 9223372036854775807 then (letterboxlaw18_WireStrings.j0 k (((((a0 ++ a0) ++ a0) ++ a0) ++ a0) ++ a0) a1) else (none)) else (none)) else (none)) else (none)) else (none)) else (letterboxlaw18_WireStrings.j0 k a0 a1))) else (some false)) = some r := H
  have A4 := Aside0.mk A40
  clear A40
  by_cases c5 : t212 = true
  · subst c5
    have H1 : (if (a0.size : Int) > 300 then (some true) else (if a2 = true then (if a0.size + a0.size ≤ 9223372036854775807 then (if (a0 ++ a0).size + a0.size ≤ 9223372036854775807 then (if ((a0 ++ a0) ++ a0).size + a0.size ≤ 9223372036854775807 then (if (((a0 ++ a0) ++ a0) ++ a0).size + a0.size ≤ 9223372036854775807 then (if ((((a0 ++ a0) ++ a0) ++ a0) ++ a0).size + a0.size ≤ 9223372036854775807 then (letterboxlaw18_WireStrings.j0 k (((((a0 ++ a0) ++ a0) ++ a0) ++ a0) ++ a0) a1) else (none)) else (none)) else (none)) else (none)) else (none)) else (letterboxlaw18_WireStrings.j0 k a0 a1))) = some r := by rw [if_pos rfl] at H; exact H
    clear H
    have H := H1
    clear H1
    by_cases c6 : (a0.size : Int) > 300
    · rw [if_pos c6] at H
      have c6b0 : decide (300 < (a0.size : Int)) = true := decide_eq_true c6
      have c6b1 : decide (300 < a0.size) = true := decide_eq_true (by omega)
      clear c6
      obtain rfl := Option.some.inj H
      go_enter Try.func5, Try.ntmps5
      go_wp2_with (first | ((with_reducible refine gate_callee (f := 7) rfl ?_); refine goesL_ (some 12) rfl rfl Try.func7 (by kernel_rfl) rfl #[] rfl (by (try simp only [List.map_toArray, List.map_cons, List.map_nil]); first | done | rfl | (simp only [List.length_drop, List.length_take]; rfl)) ?_; (with_reducible refine (letterboxlaw18_awake.calls  true _ A4.out).mono ?_); rintro e w7 ⟨rfl, hb⟩; refine ⟨_, rfl, ?_⟩; have n0_ := Aside0.mk (below_step (by repeat (first | (with_reducible first | exact HB.out | apply below_alloc | apply pw_below_drewN | apply below_drew1) | exact HB.out)) hb); clear HB; have HB := n0_; clear n0_; (try clear hb); (try clear hb2); (try clear hk); (try clear hi)))
      go_ret
      exact ⟨by first | rfl | (simp [errW_none, errW_some] <;> rfl) | (simp [*, errW_none, errW_some] <;> rfl), by repeat (first | (with_reducible first | exact HB.out | apply below_alloc | apply pw_below_drewN | apply below_drew1) | exact HB.out)⟩
    · rw [if_neg c6] at H
      have c6b0 : decide (300 < (a0.size : Int)) = false := decide_eq_false c6
      have c6b1 : decide (300 < a0.size) = false := decide_eq_false (by omega)
      clear c6
      have HC8 := Aside0.mk H
      clear H
      go_enter Try.func5, Try.ntmps5
      go_upto_if 18 with (first | ((with_reducible refine gate_callee (f := 7) rfl ?_); refine goesL_ (some 12) rfl rfl Try.func7 (by kernel_rfl) rfl #[] rfl (by (try simp only [List.map_toArray, List.map_cons, List.map_nil]); first | done | rfl | (simp only [List.length_drop, List.length_take]; rfl)) ?_; (with_reducible refine (letterboxlaw18_awake.calls  true _ A4.out).mono ?_); rintro e w9 ⟨rfl, hb⟩; refine ⟨_, rfl, ?_⟩; have n0_ := Aside0.mk (below_step (by repeat (first | (with_reducible first | exact HB.out | apply below_alloc | apply pw_below_drewN | apply below_drew1) | exact HB.out)) hb); clear HB; have HB := n0_; clear n0_; (try clear hb); (try clear hb2); (try clear hk); (try clear hi)))
      (try simp only [Act.put, List.setIfInBounds_toArray, List.set_cons_zero, List.set_cons_succ])
      go_cut [0] (fun v0 wc => ∃ (kq : Nat) (x0_7 : ByteArray), v0 = .string x0_7 ∧ Aside0 (letterboxlaw18_WireStrings.j0 kq x0_7 a1 = some r) ∧ Aside0 (kq ≤ k) ∧ Aside0 (Below w.heap.size w wc))
      case first =>
        have H := HC8.out
        clear HC8
        by_cases c10 : a2 = true
        · subst c10
          have H1 : (if a0.size + a0.size ≤ 9223372036854775807 then (if (a0 ++ a0).size + a0.size ≤ 9223372036854775807 then (if ((a0 ++ a0) ++ a0).size + a0.size ≤ 9223372036854775807 then (if (((a0 ++ a0) ++ a0) ++ a0).size + a0.size ≤ 9223372036854775807 then (if ((((a0 ++ a0) ++ a0) ++ a0) ++ a0).size + a0.size ≤ 9223372036854775807 then (letterboxlaw18_WireStrings.j0 k (((((a0 ++ a0) ++ a0) ++ a0) ++ a0) ++ a0) a1) else (none)) else (none)) else (none)) else (none)) else (none)) = some r := by rw [if_pos rfl] at H; exact H
          clear H
          have H := H1
          clear H1
          by_cases c11 : a0.size + a0.size ≤ 9223372036854775807
          · rw [if_pos c11] at H
            have c11b0 := eq_true c11
            have c11b1 : decide (a0.size + a0.size ≤ 9223372036854775807) = true := decide_eq_true c11
            try have c11b2 : (9223372036854775807 < a0.size + a0.size) = False := eq_false (Nat.not_lt.2 c11)
            by_cases c12 : (a0 ++ a0).size + a0.size ≤ 9223372036854775807
            · rw [if_pos c12] at H
              have c12b0 := eq_true c12
              have c12b1 : decide ((a0 ++ a0).size + a0.size ≤ 9223372036854775807) = true := decide_eq_true c12
              try have c12b2 : (9223372036854775807 < (a0 ++ a0).size + a0.size) = False := eq_false (Nat.not_lt.2 c12)
              try have c12b4 : (9223372036854775807 < a0.size + a0.size + a0.size) = False := eq_false (Nat.not_lt.2 (by have h_ := c12; simp only [ByteArray.size_append] at h_; exact h_))
              by_cases c13 : ((a0 ++ a0) ++ a0).size + a0.size ≤ 9223372036854775807
              · rw [if_pos c13] at H
                have c13b0 := eq_true c13
                have c13b1 : decide (((a0 ++ a0) ++ a0).size + a0.size ≤ 9223372036854775807) = true := decide_eq_true c13
                try have c13b2 : (9223372036854775807 < ((a0 ++ a0) ++ a0).size + a0.size) = False := eq_false (Nat.not_lt.2 c13)
                try have c13b4 : (9223372036854775807 < a0.size + a0.size + a0.size + a0.size) = False := eq_false (Nat.not_lt.2 (by have h_ := c13; simp only [ByteArray.size_append] at h_; exact h_))
                by_cases c14 : (((a0 ++ a0) ++ a0) ++ a0).size + a0.size ≤ 9223372036854775807
                · rw [if_pos c14] at H
                  have c14b0 := eq_true c14
                  have c14b1 : decide ((((a0 ++ a0) ++ a0) ++ a0).size + a0.size ≤ 9223372036854775807) = true := decide_eq_true c14
                  try have c14b2 : (9223372036854775807 < (((a0 ++ a0) ++ a0) ++ a0).size + a0.size) = False := eq_false (Nat.not_lt.2 c14)
                  try have c14b4 : (9223372036854775807 < a0.size + a0.size + a0.size + a0.size + a0.size) = False := eq_false (Nat.not_lt.2 (by have h_ := c14; simp only [ByteArray.size_append] at h_; exact h_))
                  by_cases c15 : ((((a0 ++ a0) ++ a0) ++ a0) ++ a0).size + a0.size ≤ 9223372036854775807
                  · rw [if_pos c15] at H
                    have c15b0 := eq_true c15
                    have c15b1 : decide (((((a0 ++ a0) ++ a0) ++ a0) ++ a0).size + a0.size ≤ 9223372036854775807) = true := decide_eq_true c15
                    try have c15b2 : (9223372036854775807 < ((((a0 ++ a0) ++ a0) ++ a0) ++ a0).size + a0.size) = False := eq_false (Nat.not_lt.2 c15)
                    try have c15b4 : (9223372036854775807 < a0.size + a0.size + a0.size + a0.size + a0.size + a0.size) = False := eq_false (Nat.not_lt.2 (by have h_ := c15; simp only [ByteArray.size_append] at h_; exact h_))
                    have H' := Aside0.mk H
                    clear H
                    go_wp2
                    go_meet
                    case rel => exact ⟨_, (((((a0 ++ a0) ++ a0) ++ a0) ++ a0) ++ a0), (by first | rfl | (simp; done) | (simp [*]; done)), H', ⟨by first | omega | exact Nat.le_refl _⟩, ⟨by repeat (first | (with_reducible first | exact HB.out | apply below_alloc | apply pw_below_drewN | apply below_drew1) | exact HB.out)⟩⟩
                  · rw [if_neg c15] at H
                    exact absurd H (by simp)
                · rw [if_neg c14] at H
                  exact absurd H (by simp)
              · rw [if_neg c13] at H
                exact absurd H (by simp)
            · rw [if_neg c12] at H
              exact absurd H (by simp)
          · rw [if_neg c11] at H
            exact absurd H (by simp)
        · replace c10 := Bool.eq_false_iff.mpr c10
          subst c10
          have H1 : (letterboxlaw18_WireStrings.j0 k a0 a1) = some r := by rw [if_neg (show ¬ (false = true) by decide)] at H; exact H
          clear H
          have H := H1
          clear H1
          have H' := Aside0.mk H
          clear H
          go_wp2
          go_meet
          case rel => exact ⟨_, (a0), (by first | rfl | (simp; done) | (simp [*]; done)), H', ⟨by first | omega | exact Nat.le_refl _⟩, ⟨by repeat (first | (with_reducible first | exact HB.out | apply below_alloc | apply pw_below_drewN | apply below_drew1) | exact HB.out)⟩⟩
      case rest =>
        clear HC8
        try clear c1
        try clear p2
        try clear c5
        try clear c6
        try clear c6b0
        try clear c6b1
        try clear c7
        try clear c10
        try clear c11
        try clear c11b0
        try clear c11b1
        try clear c11b2
        try clear c12
        try clear c12b0
        try clear c12b1
        try clear c12b2
        try clear c13
        try clear c13b0
        try clear c13b1
        try clear c13b2
        try clear c14
        try clear c14b0
        try clear c14b1
        try clear c14b2
        try clear c15
        try clear c15b0
        try clear c15b1
        try clear c15b2
        obtain ⟨kq, x0_7, rfl, HA, HJ7, HB⟩ := hcut
        cases kq with
        | zero => exact absurd HA.out (by simp [letterboxlaw18_WireStrings.j0])
        | succ kj7 =>
          have H := HA.out
          clear HA
          simp only [letterboxlaw18_WireStrings.j0] at H
          have HC16 := Aside0.mk H
          clear H
          go_upto_region 8 with (fail)
          go_cut [62] (fun v62 wc => ∃ (kq : Nat) (x62_15 : Bool), v62 = .bool x62_15 ∧ Aside0 (letterboxlaw18_WireStrings.j1 kq x0_7 x62_15 = some r) ∧ Aside0 (kq ≤ kj7) ∧ Aside0 (Below w.heap.size w wc))
          case first =>
            have H := HC16.out
            clear HC16
            replace H := Option.bind_eq_some_iff.mp H
            obtain ⟨t213, A170, H⟩ := H
            replace H : ((letterboxref18_String.f kj7 x0_7).bind fun t214 => (if t213.toList = t214.toList then ((wire_Astring.f kj7 x0_7).bind fun t215 => ((letterboxref18_Astring.f kj7 x0_7).bind fun t216 => (if t215.toList = t216.toList then (if a1 = true then ((wire_NString.f kj7 x0_7 a1).bind fun t217 => ((wire_String.f kj7 x0_7).bind fun t218 => (if t217.toList = t218.toList then (letterboxlaw18_WireStrings.j1 kj7 x0_7 false) else (letterboxlaw18_WireStrings.j1 kj7 x0_7 true)))) else ((wire_NString.f kj7 x0_7 a1).bind fun t219 => (letterboxlaw18_WireStrings.j1 kj7 x0_7 (t219.toList != ([78, 73, 76] : List UInt8))))) else (letterboxlaw18_WireStrings.j1 kj7 x0_7 true)))) else (letterboxlaw18_WireStrings.j1 kj7 x0_7 true))) = some r := H
            have A17 := Aside0.mk A170
            clear A170
            replace H := Option.bind_eq_some_iff.mp H
            obtain ⟨t214, A180, H⟩ := H
            replace H : (if t213.toList = t214.toList then ((wire_Astring.f kj7 x0_7).bind fun t215 => ((letterboxref18_Astring.f kj7 x0_7).bind fun t216 => (if t215.toList = t216.toList then (if a1 = true then ((wire_NString.f kj7 x0_7 a1).bind fun t217 => ((wire_String.f kj7 x0_7).bind fun t218 => (if t217.toList = t218.toList then (letterboxlaw18_WireStrings.j1 kj7 x0_7 false) else (letterboxlaw18_WireStrings.j1 kj7 x0_7 true)))) else ((wire_NString.f kj7 x0_7 a1).bind fun t219 => (letterboxlaw18_WireStrings.j1 kj7 x0_7 (t219.toList != ([78, 73, 76] : List UInt8))))) else (letterboxlaw18_WireStrings.j1 kj7 x0_7 true)))) else (letterboxlaw18_WireStrings.j1 kj7 x0_7 true)) = some r := H
            have A18 := Aside0.mk A180
            clear A180
            by_cases c19 : t213.toList = t214.toList
            · rw [if_pos c19] at H
              have c19b0 : (t213.toList == t214.toList) = true := beq_iff_eq.mpr c19
              have c19b1 : (t213.toList != t214.toList) = false := bne_eq_false_iff_eq.mpr c19
              clear c19
              (first | rw [c19b0] | (simp only [i64_w, i32_w]; rw [c19b0]) | skip)
              replace H := Option.bind_eq_some_iff.mp H
              obtain ⟨t215, A200, H⟩ := H
              replace H : ((letterboxref18_Astring.f kj7 x0_7).bind fun t216 => (if t215.toList = t216.toList then (if a1 = true then ((wire_NString.f kj7 x0_7 a1).bind fun t217 => ((wire_String.f kj7 x0_7).bind fun t218 => (if t217.toList = t218.toList then (letterboxlaw18_WireStrings.j1 kj7 x0_7 false) else (letterboxlaw18_WireStrings.j1 kj7 x0_7 true)))) else ((wire_NString.f kj7 x0_7 a1).bind fun t219 => (letterboxlaw18_WireStrings.j1 kj7 x0_7 (t219.toList != ([78, 73, 76] : List UInt8))))) else (letterboxlaw18_WireStrings.j1 kj7 x0_7 true))) = some r := H
              have A20 := Aside0.mk A200
              clear A200
              replace H := Option.bind_eq_some_iff.mp H
              obtain ⟨t216, A210, H⟩ := H
              replace H : (if t215.toList = t216.toList then (if a1 = true then ((wire_NString.f kj7 x0_7 a1).bind fun t217 => ((wire_String.f kj7 x0_7).bind fun t218 => (if t217.toList = t218.toList then (letterboxlaw18_WireStrings.j1 kj7 x0_7 false) else (letterboxlaw18_WireStrings.j1 kj7 x0_7 true)))) else ((wire_NString.f kj7 x0_7 a1).bind fun t219 => (letterboxlaw18_WireStrings.j1 kj7 x0_7 (t219.toList != ([78, 73, 76] : List UInt8))))) else (letterboxlaw18_WireStrings.j1 kj7 x0_7 true)) = some r := H
              have A21 := Aside0.mk A210
              clear A210
              by_cases c22 : t215.toList = t216.toList
              · rw [if_pos c22] at H
                have c22b0 : (t215.toList == t216.toList) = true := beq_iff_eq.mpr c22
                have c22b1 : (t215.toList != t216.toList) = false := bne_eq_false_iff_eq.mpr c22
                clear c22
                by_cases c23 : a1 = true
                · subst c23
                  have H1 : ((wire_NString.f kj7 x0_7 true).bind fun t217 => ((wire_String.f kj7 x0_7).bind fun t218 => (if t217.toList = t218.toList then (letterboxlaw18_WireStrings.j1 kj7 x0_7 false) else (letterboxlaw18_WireStrings.j1 kj7 x0_7 true)))) = some r := by rw [if_pos rfl] at H; exact H
                  clear H
                  have H := H1
                  clear H1
                  replace H := Option.bind_eq_some_iff.mp H
                  obtain ⟨t217, A240, H⟩ := H
                  replace H : ((wire_String.f kj7 x0_7).bind fun t218 => (if t217.toList = t218.toList then (letterboxlaw18_WireStrings.j1 kj7 x0_7 false) else (letterboxlaw18_WireStrings.j1 kj7 x0_7 true))) = some r := H
                  have A24 := Aside0.mk A240
                  clear A240
                  replace H := Option.bind_eq_some_iff.mp H
                  obtain ⟨t218, A250, H⟩ := H
                  replace H : (if t217.toList = t218.toList then (letterboxlaw18_WireStrings.j1 kj7 x0_7 false) else (letterboxlaw18_WireStrings.j1 kj7 x0_7 true)) = some r := H
                  have A25 := Aside0.mk A250
                  clear A250
                  by_cases c26 : t217.toList = t218.toList
                  · rw [if_pos c26] at H
                    have c26b0 : (t217.toList == t218.toList) = true := beq_iff_eq.mpr c26
                    have c26b1 : (t217.toList != t218.toList) = false := bne_eq_false_iff_eq.mpr c26
                    clear c26
                    have H' := Aside0.mk H
                    clear H
                    go_wp2_with (first | ((with_reducible refine gate_callee (f := 12) rfl ?_); refine goesL_ (some 31) rfl rfl Try.func12 (by kernel_rfl) rfl #[.string x0_7] rfl (by (try simp only [List.map_toArray, List.map_cons, List.map_nil]); first | done | rfl | (simp only [List.length_drop, List.length_take]; rfl)) ?_; (with_reducible refine (wire_String.calls kj7 x0_7 t213 _ A17.out).mono ?_); rintro e w27 ⟨rfl, hb⟩; refine ⟨_, rfl, ?_⟩; have n0_ := Aside0.mk (below_step (by repeat (first | (with_reducible first | exact HB.out | apply below_alloc | apply pw_below_drewN | apply below_drew1) | exact HB.out)) hb); clear HB; have HB := n0_; clear n0_; (try clear hb); (try clear hb2); (try clear hk); (try clear hi)) | ((with_reducible refine gate_callee (f := 13) rfl ?_); refine goesL_ (some 33) rfl rfl Try.func13 (by kernel_rfl) rfl #[.string x0_7] rfl (by (try simp only [List.map_toArray, List.map_cons, List.map_nil]); first | done | rfl | (simp only [List.length_drop, List.length_take]; rfl)) ?_; (with_reducible refine (letterboxref18_String.calls kj7 x0_7 t214 _ A18.out).mono ?_); rintro e w28 ⟨rfl, hb⟩; refine ⟨_, rfl, ?_⟩; have n0_ := Aside0.mk (below_step (by repeat (first | (with_reducible first | exact HB.out | apply below_alloc | apply pw_below_drewN | apply below_drew1) | exact HB.out)) hb); clear HB; have HB := n0_; clear n0_; (try clear hb); (try clear hb2); (try clear hk); (try clear hi)) | (go_at_call 14; (with_reducible refine (wire_Astring.calls kj7 x0_7 t215 _ A20.out).mono ?_); rintro e w29 ⟨rfl, hb⟩; have n0_ := Aside0.mk (below_step (by repeat (first | (with_reducible first | exact HB.out | apply below_alloc | apply pw_below_drewN | apply below_drew1) | exact HB.out)) hb); clear HB; have HB := n0_; clear n0_; (try clear hb); (try clear hb2); (try clear hk); (try clear hi)) | (go_at_call 15; (with_reducible refine (letterboxref18_Astring.calls kj7 x0_7 t216 _ A21.out).mono ?_); rintro e w30 ⟨rfl, hb⟩; have n0_ := Aside0.mk (below_step (by repeat (first | (with_reducible first | exact HB.out | apply below_alloc | apply pw_below_drewN | apply below_drew1) | exact HB.out)) hb); clear HB; have HB := n0_; clear n0_; (try clear hb); (try clear hb2); (try clear hk); (try clear hi)) | (go_at_call 16; (with_reducible refine (wire_NString.calls kj7 x0_7 true t217 _ A24.out).mono ?_); rintro e w31 ⟨rfl, hb⟩; have n0_ := Aside0.mk (below_step (by repeat (first | (with_reducible first | exact HB.out | apply below_alloc | apply pw_below_drewN | apply below_drew1) | exact HB.out)) hb); clear HB; have HB := n0_; clear n0_; (try clear hb); (try clear hb2); (try clear hk); (try clear hi)) | (go_at_call 12; (with_reducible refine (wire_String.calls kj7 x0_7 t218 _ A25.out).mono ?_); rintro e w32 ⟨rfl, hb⟩; have n0_ := Aside0.mk (below_step (by repeat (first | (with_reducible first | exact HB.out | apply below_alloc | apply pw_below_drewN | apply below_drew1) | exact HB.out)) hb); clear HB; have HB := n0_; clear n0_; (try clear hb); (try clear hb2); (try clear hk); (try clear hi)))
                    go_meet
                    case rel => exact ⟨_, (false), (by first | rfl | (simp; done) | (simp [*]; done)), H', ⟨by have := HJ7.out; first | omega | exact Nat.le_refl _⟩, ⟨by repeat (first | (with_reducible first | exact HB.out | apply below_alloc | apply pw_below_drewN | apply below_drew1) | exact HB.out)⟩⟩
                  · rw [if_neg c26] at H
                    have c26b0 : (t217.toList == t218.toList) = false := beq_eq_false_iff_ne.mpr c26
                    have c26b1 : (t217.toList != t218.toList) = true := bne_iff_ne.mpr c26
                    have H' := Aside0.mk H
                    clear H
                    go_wp2_with (first | ((with_reducible refine gate_callee (f := 12) rfl ?_); refine goesL_ (some 31) rfl rfl Try.func12 (by kernel_rfl) rfl #[.string x0_7] rfl (by (try simp only [List.map_toArray, List.map_cons, List.map_nil]); first | done | rfl | (simp only [List.length_drop, List.length_take]; rfl)) ?_; (with_reducible refine (wire_String.calls kj7 x0_7 t213 _ A17.out).mono ?_); rintro e w33 ⟨rfl, hb⟩; refine ⟨_, rfl, ?_⟩; have n0_ := Aside0.mk (below_step (by repeat (first | (with_reducible first | exact HB.out | apply below_alloc | apply pw_below_drewN | apply below_drew1) | exact HB.out)) hb); clear HB; have HB := n0_; clear n0_; (try clear hb); (try clear hb2); (try clear hk); (try clear hi)) | ((with_reducible refine gate_callee (f := 13) rfl ?_); refine goesL_ (some 33) rfl rfl Try.func13 (by kernel_rfl) rfl #[.string x0_7] rfl (by (try simp only [List.map_toArray, List.map_cons, List.map_nil]); first | done | rfl | (simp only [List.length_drop, List.length_take]; rfl)) ?_; (with_reducible refine (letterboxref18_String.calls kj7 x0_7 t214 _ A18.out).mono ?_); rintro e w34 ⟨rfl, hb⟩; refine ⟨_, rfl, ?_⟩; have n0_ := Aside0.mk (below_step (by repeat (first | (with_reducible first | exact HB.out | apply below_alloc | apply pw_below_drewN | apply below_drew1) | exact HB.out)) hb); clear HB; have HB := n0_; clear n0_; (try clear hb); (try clear hb2); (try clear hk); (try clear hi)) | (go_at_call 14; (with_reducible refine (wire_Astring.calls kj7 x0_7 t215 _ A20.out).mono ?_); rintro e w35 ⟨rfl, hb⟩; have n0_ := Aside0.mk (below_step (by repeat (first | (with_reducible first | exact HB.out | apply below_alloc | apply pw_below_drewN | apply below_drew1) | exact HB.out)) hb); clear HB; have HB := n0_; clear n0_; (try clear hb); (try clear hb2); (try clear hk); (try clear hi)) | (go_at_call 15; (with_reducible refine (letterboxref18_Astring.calls kj7 x0_7 t216 _ A21.out).mono ?_); rintro e w36 ⟨rfl, hb⟩; have n0_ := Aside0.mk (below_step (by repeat (first | (with_reducible first | exact HB.out | apply below_alloc | apply pw_below_drewN | apply below_drew1) | exact HB.out)) hb); clear HB; have HB := n0_; clear n0_; (try clear hb); (try clear hb2); (try clear hk); (try clear hi)) | (go_at_call 16; (with_reducible refine (wire_NString.calls kj7 x0_7 true t217 _ A24.out).mono ?_); rintro e w37 ⟨rfl, hb⟩; have n0_ := Aside0.mk (below_step (by repeat (first | (with_reducible first | exact HB.out | apply below_alloc | apply pw_below_drewN | apply below_drew1) | exact HB.out)) hb); clear HB; have HB := n0_; clear n0_; (try clear hb); (try clear hb2); (try clear hk); (try clear hi)) | (go_at_call 12; (with_reducible refine (wire_String.calls kj7 x0_7 t218 _ A25.out).mono ?_); rintro e w38 ⟨rfl, hb⟩; have n0_ := Aside0.mk (below_step (by repeat (first | (with_reducible first | exact HB.out | apply below_alloc | apply pw_below_drewN | apply below_drew1) | exact HB.out)) hb); clear HB; have HB := n0_; clear n0_; (try clear hb); (try clear hb2); (try clear hk); (try clear hi)))
                    go_meet
                    case rel => exact ⟨_, (true), (by first | rfl | (simp; done) | (simp [*]; done)), H', ⟨by have := HJ7.out; first | omega | exact Nat.le_refl _⟩, ⟨by repeat (first | (with_reducible first | exact HB.out | apply below_alloc | apply pw_below_drewN | apply below_drew1) | exact HB.out)⟩⟩
                · replace c23 := Bool.eq_false_iff.mpr c23
                  subst c23
                  have H1 : ((wire_NString.f kj7 x0_7 false).bind fun t219 => (letterboxlaw18_WireStrings.j1 kj7 x0_7 (t219.toList != ([78, 73, 76] : List UInt8)))) = some r := by rw [if_neg (show ¬ (false = true) by decide)] at H; exact H
                  clear H
                  have H := H1
                  clear H1
                  replace H := Option.bind_eq_some_iff.mp H
                  obtain ⟨t219, A390, H⟩ := H
                  replace H : (letterboxlaw18_WireStrings.j1 kj7 x0_7 (t219.toList != ([78, 73, 76] : List UInt8))) = some r := H
                  have A39 := Aside0.mk A390
                  clear A390
                  have H' := Aside0.mk H
                  clear H
                  go_wp2_with (first | ((with_reducible refine gate_callee (f := 12) rfl ?_); refine goesL_ (some 31) rfl rfl Try.func12 (by kernel_rfl) rfl #[.string x0_7] rfl (by (try simp only [List.map_toArray, List.map_cons, List.map_nil]); first | done | rfl | (simp only [List.length_drop, List.length_take]; rfl)) ?_; (with_reducible refine (wire_String.calls kj7 x0_7 t213 _ A17.out).mono ?_); rintro e w40 ⟨rfl, hb⟩; refine ⟨_, rfl, ?_⟩; have n0_ := Aside0.mk (below_step (by repeat (first | (with_reducible first | exact HB.out | apply below_alloc | apply pw_below_drewN | apply below_drew1) | exact HB.out)) hb); clear HB; have HB := n0_; clear n0_; (try clear hb); (try clear hb2); (try clear hk); (try clear hi)) | ((with_reducible refine gate_callee (f := 13) rfl ?_); refine goesL_ (some 33) rfl rfl Try.func13 (by kernel_rfl) rfl #[.string x0_7] rfl (by (try simp only [List.map_toArray, List.map_cons, List.map_nil]); first | done | rfl | (simp only [List.length_drop, List.length_take]; rfl)) ?_; (with_reducible refine (letterboxref18_String.calls kj7 x0_7 t214 _ A18.out).mono ?_); rintro e w41 ⟨rfl, hb⟩; refine ⟨_, rfl, ?_⟩; have n0_ := Aside0.mk (below_step (by repeat (first | (with_reducible first | exact HB.out | apply below_alloc | apply pw_below_drewN | apply below_drew1) | exact HB.out)) hb); clear HB; have HB := n0_; clear n0_; (try clear hb); (try clear hb2); (try clear hk); (try clear hi)) | (go_at_call 14; (with_reducible refine (wire_Astring.calls kj7 x0_7 t215 _ A20.out).mono ?_); rintro e w42 ⟨rfl, hb⟩; have n0_ := Aside0.mk (below_step (by repeat (first | (with_reducible first | exact HB.out | apply below_alloc | apply pw_below_drewN | apply below_drew1) | exact HB.out)) hb); clear HB; have HB := n0_; clear n0_; (try clear hb); (try clear hb2); (try clear hk); (try clear hi)) | (go_at_call 15; (with_reducible refine (letterboxref18_Astring.calls kj7 x0_7 t216 _ A21.out).mono ?_); rintro e w43 ⟨rfl, hb⟩; have n0_ := Aside0.mk (below_step (by repeat (first | (with_reducible first | exact HB.out | apply below_alloc | apply pw_below_drewN | apply below_drew1) | exact HB.out)) hb); clear HB; have HB := n0_; clear n0_; (try clear hb); (try clear hb2); (try clear hk); (try clear hi)) | (go_at_call 16; (with_reducible refine (wire_NString.calls kj7 x0_7 false t219 _ A39.out).mono ?_); rintro e w44 ⟨rfl, hb⟩; have n0_ := Aside0.mk (below_step (by repeat (first | (with_reducible first | exact HB.out | apply below_alloc | apply pw_below_drewN | apply below_drew1) | exact HB.out)) hb); clear HB; have HB := n0_; clear n0_; (try clear hb); (try clear hb2); (try clear hk); (try clear hi)))
                  go_meet
                  case rel => exact ⟨_, ((t219.toList != ([78, 73, 76] : List UInt8))), (by first | rfl | (simp; done) | (simp [*]; done)), H', ⟨by have := HJ7.out; first | omega | exact Nat.le_refl _⟩, ⟨by repeat (first | (with_reducible first | exact HB.out | apply below_alloc | apply pw_below_drewN | apply below_drew1) | exact HB.out)⟩⟩
              · rw [if_neg c22] at H
                have c22b0 : (t215.toList == t216.toList) = false := beq_eq_false_iff_ne.mpr c22
                have c22b1 : (t215.toList != t216.toList) = true := bne_iff_ne.mpr c22
                have H' := Aside0.mk H
                clear H
                go_wp2_with (first | ((with_reducible refine gate_callee (f := 12) rfl ?_); refine goesL_ (some 31) rfl rfl Try.func12 (by kernel_rfl) rfl #[.string x0_7] rfl (by (try simp only [List.map_toArray, List.map_cons, List.map_nil]); first | done | rfl | (simp only [List.length_drop, List.length_take]; rfl)) ?_; (with_reducible refine (wire_String.calls kj7 x0_7 t213 _ A17.out).mono ?_); rintro e w45 ⟨rfl, hb⟩; refine ⟨_, rfl, ?_⟩; have n0_ := Aside0.mk (below_step (by repeat (first | (with_reducible first | exact HB.out | apply below_alloc | apply pw_below_drewN | apply below_drew1) | exact HB.out)) hb); clear HB; have HB := n0_; clear n0_; (try clear hb); (try clear hb2); (try clear hk); (try clear hi)) | ((with_reducible refine gate_callee (f := 13) rfl ?_); refine goesL_ (some 33) rfl rfl Try.func13 (by kernel_rfl) rfl #[.string x0_7] rfl (by (try simp only [List.map_toArray, List.map_cons, List.map_nil]); first | done | rfl | (simp only [List.length_drop, List.length_take]; rfl)) ?_; (with_reducible refine (letterboxref18_String.calls kj7 x0_7 t214 _ A18.out).mono ?_); rintro e w46 ⟨rfl, hb⟩; refine ⟨_, rfl, ?_⟩; have n0_ := Aside0.mk (below_step (by repeat (first | (with_reducible first | exact HB.out | apply below_alloc | apply pw_below_drewN | apply below_drew1) | exact HB.out)) hb); clear HB; have HB := n0_; clear n0_; (try clear hb); (try clear hb2); (try clear hk); (try clear hi)) | (go_at_call 14; (with_reducible refine (wire_Astring.calls kj7 x0_7 t215 _ A20.out).mono ?_); rintro e w47 ⟨rfl, hb⟩; have n0_ := Aside0.mk (below_step (by repeat (first | (with_reducible first | exact HB.out | apply below_alloc | apply pw_below_drewN | apply below_drew1) | exact HB.out)) hb); clear HB; have HB := n0_; clear n0_; (try clear hb); (try clear hb2); (try clear hk); (try clear hi)) | (go_at_call 15; (with_reducible refine (letterboxref18_Astring.calls kj7 x0_7 t216 _ A21.out).mono ?_); rintro e w48 ⟨rfl, hb⟩; have n0_ := Aside0.mk (below_step (by repeat (first | (with_reducible first | exact HB.out | apply below_alloc | apply pw_below_drewN | apply below_drew1) | exact HB.out)) hb); clear HB; have HB := n0_; clear n0_; (try clear hb); (try clear hb2); (try clear hk); (try clear hi)))
                go_meet
                case rel => exact ⟨_, (true), (by first | rfl | (simp; done) | (simp [*]; done)), H', ⟨by have := HJ7.out; first | omega | exact Nat.le_refl _⟩, ⟨by repeat (first | (with_reducible first | exact HB.out | apply below_alloc | apply pw_below_drewN | apply below_drew1) | exact HB.out)⟩⟩
            · rw [if_neg c19] at H
              have c19b0 : (t213.toList == t214.toList) = false := beq_eq_false_iff_ne.mpr c19
              have c19b1 : (t213.toList != t214.toList) = true := bne_iff_ne.mpr c19
              (first | rw [c19b0] | (simp only [i64_w, i32_w]; rw [c19b0]) | skip)
              have H' := Aside0.mk H
              clear H
              go_wp2_with (first | ((with_reducible refine gate_callee (f := 12) rfl ?_); refine goesL_ (some 31) rfl rfl Try.func12 (by kernel_rfl) rfl #[.string x0_7] rfl (by (try simp only [List.map_toArray, List.map_cons, List.map_nil]); first | done | rfl | (simp only [List.length_drop, List.length_take]; rfl)) ?_; (with_reducible refine (wire_String.calls kj7 x0_7 t213 _ A17.out).mono ?_); rintro e w49 ⟨rfl, hb⟩; refine ⟨_, rfl, ?_⟩; have n0_ := Aside0.mk (below_step (by repeat (first | (with_reducible first | exact HB.out | apply below_alloc | apply pw_below_drewN | apply below_drew1) | exact HB.out)) hb); clear HB; have HB := n0_; clear n0_; (try clear hb); (try clear hb2); (try clear hk); (try clear hi)) | ((with_reducible refine gate_callee (f := 13) rfl ?_); refine goesL_ (some 33) rfl rfl Try.func13 (by kernel_rfl) rfl #[.string x0_7] rfl (by (try simp only [List.map_toArray, List.map_cons, List.map_nil]); first | done | rfl | (simp only [List.length_drop, List.length_take]; rfl)) ?_; (with_reducible refine (letterboxref18_String.calls kj7 x0_7 t214 _ A18.out).mono ?_); rintro e w50 ⟨rfl, hb⟩; refine ⟨_, rfl, ?_⟩; have n0_ := Aside0.mk (below_step (by repeat (first | (with_reducible first | exact HB.out | apply below_alloc | apply pw_below_drewN | apply below_drew1) | exact HB.out)) hb); clear HB; have HB := n0_; clear n0_; (try clear hb); (try clear hb2); (try clear hk); (try clear hi)))
              go_meet
              case rel => exact ⟨_, (true), (by first | rfl | (simp; done) | (simp [*]; done)), H', ⟨by have := HJ7.out; first | omega | exact Nat.le_refl _⟩, ⟨by repeat (first | (with_reducible first | exact HB.out | apply below_alloc | apply pw_below_drewN | apply below_drew1) | exact HB.out)⟩⟩
          case rest =>
            clear HC16
            try clear c1
            try clear c2
            try clear p2
            try clear c5
            try clear c6
            try clear c6b0
            try clear c6b1
            try clear c7
            try clear c10
            try clear c11
            try clear c11b0
            try clear c11b1
            try clear c11b2
            try clear c12
            try clear c12b0
            try clear c12b1
            try clear c12b2
            try clear c13
            try clear c13b0
            try clear c13b1
            try clear c13b2
            try clear c14
            try clear c14b0
            try clear c14b1
            try clear c14b2
            try clear c15
            try clear c15b0
            try clear c15b1
            try clear c15b2
            try clear c19
            try clear c19b0
            try clear c19b1
            try clear c22
            try clear c22b0
            try clear c22b1
            try clear c23
            try clear c26
            try clear c26b0
            try clear c26b1
            try clear p2
            obtain ⟨kq, x62_15, rfl, HA, HJ15, HB⟩ := hcut
            cases kq with
            | zero => exact absurd HA.out (by simp [letterboxlaw18_WireStrings.j1])
            | succ kj15 =>
              have H := HA.out
              clear HA
              simp only [letterboxlaw18_WireStrings.j1] at H
              by_cases c51 : x62_15 = true
              · subst c51
                have H1 : (some false) = some r := by rw [if_pos rfl] at H; exact H
                clear H
                have H := H1
                clear H1
                obtain rfl := Option.some.inj H
                go_wp2
                go_ret
                exact ⟨by first | rfl | (simp [errW_none, errW_some] <;> rfl) | (simp [*, errW_none, errW_some] <;> rfl), by repeat (first | (with_reducible first | exact HB.out | apply below_alloc | apply pw_below_drewN | apply below_drew1) | exact HB.out)⟩
              · replace c51 := Bool.eq_false_iff.mpr c51
                subst c51
                have H1 : ((wire_String.f kj15 x0_7).bind fun t220 => (if t220.size ≤ 9223372036854775807 then ((wire_Tokens.f kj15 (bytesOf t220)).bind fun bt224 => ((wire_Astring.f kj15 x0_7).bind fun t228 => (if t228.size + 2 ≤ 9223372036854775807 then (if (t228 ++ (⟨#[32, 120]⟩ : ByteArray)).size ≤ 9223372036854775807 then ((wire_Tokens.f kj15 (bytesOf (t228 ++ (⟨#[32, 120]⟩ : ByteArray)))).bind fun bt232 => (if bt224.2 = 0 then (if bt232.2 = 0 then (if (bt224.1.length : Int) = 1 then (if 0 < (bt224.1.length : Int) then (if ((rd_T43 bt224.1 0).f0) = 2 then (if ((rd_T43 bt224.1 0).f1).toList = x0_7.toList then (if (bt232.1.length : Int) = 3 then (if 0 < (bt232.1.length : Int) then (if ((rd_T43 bt232.1 0).f1).toList = x0_7.toList then (if 1 < (bt232.1.length : Int) then (some (((rd_T43 bt232.1 1).f0) == 5)) else (none)) else (some false)) else (none)) else (some false)) else (some false)) else (some false)) else (none)) else (some false)) else (some false)) else (some false))) else (none)) else (none)))) else (none))) = some r := by rw [if_neg (show ¬ (false = true) by decide)] at H; exact H
                clear H
                have H := H1
                clear H1
                replace H := Option.bind_eq_some_iff.mp H
                obtain ⟨t220, A520, H⟩ := H
                replace H : (if t220.size ≤ 9223372036854775807 then ((wire_Tokens.f kj15 (bytesOf t220)).bind fun bt224 => ((wire_Astring.f kj15 x0_7).bind fun t228 => (if t228.size + 2 ≤ 9223372036854775807 then (if (t228 ++ (⟨#[32, 120]⟩ : ByteArray)).size ≤ 9223372036854775807 then ((wire_Tokens.f kj15 (bytesOf (t228 ++ (⟨#[32, 120]⟩ : ByteArray)))).bind fun bt232 => (if bt224.2 = 0 then (if bt232.2 = 0 then (if (bt224.1.length : Int) = 1 then (if 0 < (bt224.1.length : Int) then (if ((rd_T43 bt224.1 0).f0) = 2 then (if ((rd_T43 bt224.1 0).f1).toList = x0_7.toList then (if (bt232.1.length : Int) = 3 then (if 0 < (bt232.1.length : Int) then (if ((rd_T43 bt232.1 0).f1).toList = x0_7.toList then (if 1 < (bt232.1.length : Int) then (some (((rd_T43 bt232.1 1).f0) == 5)) else (none)) else (some false)) else (none)) else (some false)) else (some false)) else (some false)) else (none)) else (some false)) else (some false)) else (some false))) else (none)) else (none)))) else (none)) = some r := H
                have A52 := Aside0.mk A520
                clear A520
                by_cases c53 : t220.size ≤ 9223372036854775807
                · rw [if_pos c53] at H
                  have c53b0 := eq_true c53
                  have c53b1 : decide (t220.size ≤ 9223372036854775807) = true := decide_eq_true c53
                  try have c53b2 : (9223372036854775807 < t220.size) = False := eq_false (Nat.not_lt.2 c53)
                  clear c53
                  obtain ⟨y221, hy221⟩ : ∃ y_ : List Int, y_ = (bytesOf t220) := ⟨_, rfl⟩
                  replace H : ((wire_Tokens.f kj15 y221).bind fun bt224 => ((wire_Astring.f kj15 x0_7).bind fun t228 => (if t228.size + 2 ≤ 9223372036854775807 then (if (t228 ++ (⟨#[32, 120]⟩ : ByteArray)).size ≤ 9223372036854775807 then ((wire_Tokens.f kj15 (bytesOf (t228 ++ (⟨#[32, 120]⟩ : ByteArray)))).bind fun bt232 => (if bt224.2 = 0 then (if bt232.2 = 0 then (if (bt224.1.length : Int) = 1 then (if 0 < (bt224.1.length : Int) then (if ((rd_T43 bt224.1 0).f0) = 2 then (if ((rd_T43 bt224.1 0).f1).toList = x0_7.toList then (if (bt232.1.length : Int) = 3 then (if 0 < (bt232.1.length : Int) then (if ((rd_T43 bt232.1 0).f1).toList = x0_7.toList then (if 1 < (bt232.1.length : Int) then (some (((rd_T43 bt232.1 1).f0) == 5)) else (none)) else (some false)) else (none)) else (some false)) else (some false)) else (some false)) else (none)) else (some false)) else (some false)) else (some false))) else (none)) else (none)))) = some r := by first | (rw [hy221]; with_reducible exact H) | (have H2_ := (Option.bind_some _ _).symm.trans H; rw [hy221]; with_reducible exact H2_) | (have H2_ := (Option.bind_some _ _).symm.trans H; with_reducible exact H2_) | with_reducible exact H | (rw [hy221]; exact H) | exact H
                  have Ny221 := Aside0.mk hy221
                  clear hy221
                  replace H := Option.bind_eq_some_iff.mp H
                  obtain ⟨⟨t224, t225⟩, A540, H⟩ := H
                  replace H : ((wire_Astring.f kj15 x0_7).bind fun t228 => (if t228.size + 2 ≤ 9223372036854775807 then (if (t228 ++ (⟨#[32, 120]⟩ : ByteArray)).size ≤ 9223372036854775807 then ((wire_Tokens.f kj15 (bytesOf (t228 ++ (⟨#[32, 120]⟩ : ByteArray)))).bind fun bt232 => (if t225 = 0 then (if bt232.2 = 0 then (if (t224.length : Int) = 1 then (if 0 < (t224.length : Int) then (if ((rd_T43 t224 0).f0) = 2 then (if ((rd_T43 t224 0).f1).toList = x0_7.toList then (if (bt232.1.length : Int) = 3 then (if 0 < (bt232.1.length : Int) then (if ((rd_T43 bt232.1 0).f1).toList = x0_7.toList then (if 1 < (bt232.1.length : Int) then (some (((rd_T43 bt232.1 1).f0) == 5)) else (none)) else (some false)) else (none)) else (some false)) else (some false)) else (some false)) else (none)) else (some false)) else (some false)) else (some false))) else (none)) else (none))) = some r := H
                  have A54 := Aside0.mk A540
                  clear A540
                  replace H := Option.bind_eq_some_iff.mp H
                  obtain ⟨t228, A550, H⟩ := H
                  replace H : (if t228.size + 2 ≤ 9223372036854775807 then (if (t228 ++ (⟨#[32, 120]⟩ : ByteArray)).size ≤ 9223372036854775807 then ((wire_Tokens.f kj15 (bytesOf (t228 ++ (⟨#[32, 120]⟩ : ByteArray)))).bind fun bt232 => (if t225 = 0 then (if bt232.2 = 0 then (if (t224.length : Int) = 1 then (if 0 < (t224.length : Int) then (if ((rd_T43 t224 0).f0) = 2 then (if ((rd_T43 t224 0).f1).toList = x0_7.toList then (if (bt232.1.length : Int) = 3 then (if 0 < (bt232.1.length : Int) then (if ((rd_T43 bt232.1 0).f1).toList = x0_7.toList then (if 1 < (bt232.1.length : Int) then (some (((rd_T43 bt232.1 1).f0) == 5)) else (none)) else (some false)) else (none)) else (some false)) else (some false)) else (some false)) else (none)) else (some false)) else (some false)) else (some false))) else (none)) else (none)) = some r := H
                  have A55 := Aside0.mk A550
                  clear A550
                  by_cases c56 : t228.size + 2 ≤ 9223372036854775807
                  · rw [if_pos c56] at H
                    have c56b0 := eq_true c56
                    have c56b1 : decide (t228.size + 2 ≤ 9223372036854775807) = true := decide_eq_true c56
                    try have c56b2 : (9223372036854775807 < t228.size + 2) = False := eq_false (Nat.not_lt.2 c56)
                    by_cases c57 : (t228 ++ (⟨#[32, 120]⟩ : ByteArray)).size ≤ 9223372036854775807
                    · rw [if_pos c57] at H
                      have c57b0 := eq_true c57
                      have c57b1 : decide ((t228 ++ (⟨#[32, 120]⟩ : ByteArray)).size ≤ 9223372036854775807) = true := decide_eq_true c57
                      try have c57b2 : (9223372036854775807 < (t228 ++ (⟨#[32, 120]⟩ : ByteArray)).size) = False := eq_false (Nat.not_lt.2 c57)
                      try have c57b4 : (9223372036854775807 < t228.size + 2) = False := eq_false (Nat.not_lt.2 (by have h_ := c57; simp only [ByteArray.size_append] at h_; exact h_))
                      obtain ⟨y229, hy229⟩ : ∃ y_ : List Int, y_ = (bytesOf (t228 ++ (⟨#[32, 120]⟩ : ByteArray))) := ⟨_, rfl⟩
                      replace H : ((wire_Tokens.f kj15 y229).bind fun bt232 => (if t225 = 0 then (if bt232.2 = 0 then (if (t224.length : Int) = 1 then (if 0 < (t224.length : Int) then (if ((rd_T43 t224 0).f0) = 2 then (if ((rd_T43 t224 0).f1).toList = x0_7.toList then (if (bt232.1.length : Int) = 3 then (if 0 < (bt232.1.length : Int) then (if ((rd_T43 bt232.1 0).f1).toList = x0_7.toList then (if 1 < (bt232.1.length : Int) then (some (((rd_T43 bt232.1 1).f0) == 5)) else (none)) else (some false)) else (none)) else (some false)) else (some false)) else (some false)) else (none)) else (some false)) else (some false)) else (some false))) = some r := by first | (rw [hy229]; with_reducible exact H) | (have H2_ := (Option.bind_some _ _).symm.trans H; rw [hy229]; with_reducible exact H2_) | (have H2_ := (Option.bind_some _ _).symm.trans H; with_reducible exact H2_) | with_reducible exact H | (rw [hy229]; exact H) | exact H
                      have Ny229 := Aside0.mk hy229
                      clear hy229
                      replace H := Option.bind_eq_some_iff.mp H
                      obtain ⟨⟨t232, t233⟩, A580, H⟩ := H
                      replace H : (if t225 = 0 then (if t233 = 0 then (if (t224.length : Int) = 1 then (if 0 < (t224.length : Int) then (if ((rd_T43 t224 0).f0) = 2 then (if ((rd_T43 t224 0).f1).toList = x0_7.toList then (if (t232.length : Int) = 3 then (if 0 < (t232.length : Int) then (if ((rd_T43 t232 0).f1).toList = x0_7.toList then (if 1 < (t232.length : Int) then (some (((rd_T43 t232 1).f0) == 5)) else (none)) else (some false)) else (none)) else (some false)) else (some false)) else (some false)) else (none)) else (some false)) else (some false)) else (some false)) = some r := H
                      have A58 := Aside0.mk A580
                      clear A580
                      by_cases c59 : t225 = 0
                      · rw [if_pos c59] at H
                        have c59b0 : (t225 == 0) = true := beq_iff_eq.mpr c59
                        have c59b1 : (t225 != 0) = false := bne_eq_false_iff_eq.mpr c59
                        clear c59
                        by_cases c60 : t233 = 0
                        · rw [if_pos c60] at H
                          have c60b0 : (t233 == 0) = true := beq_iff_eq.mpr c60
                          have c60b1 : (t233 != 0) = false := bne_eq_false_iff_eq.mpr c60
                          clear c60
                          by_cases c61 : (t224.length : Int) = 1
                          · rw [if_pos c61] at H
                            have c61b0 : ((t224.length : Int) == 1) = true := beq_iff_eq.mpr c61
                            have c61b1 : ((t224.length : Int) != 1) = false := bne_eq_false_iff_eq.mpr c61
                            clear c61
                            by_cases c62 : 0 < (t224.length : Int)
                            · rw [if_pos c62] at H
                              have c62b0 : decide (0 < (t224.length : Int)) = true := decide_eq_true c62
                              have c62b1 : decide (0 < t224.length) = true := decide_eq_true (by omega)
                              clear c62
                              by_cases c63 : ((rd_T43 t224 0).f0) = 2
                              · rw [if_pos c63] at H
                                have c63b0 : (((rd_T43 t224 0).f0) == 2) = true := beq_iff_eq.mpr c63
                                have c63b1 : (((rd_T43 t224 0).f0) != 2) = false := bne_eq_false_iff_eq.mpr c63
                                clear c63
                                by_cases c64 : ((rd_T43 t224 0).f1).toList = x0_7.toList
                                · rw [if_pos c64] at H
                                  have c64b0 : (((rd_T43 t224 0).f1).toList == x0_7.toList) = true := beq_iff_eq.mpr c64
                                  have c64b1 : (((rd_T43 t224 0).f1).toList != x0_7.toList) = false := bne_eq_false_iff_eq.mpr c64
                                  clear c64
                                  by_cases c65 : (t232.length : Int) = 3
                                  · rw [if_pos c65] at H
                                    have c65b0 : ((t232.length : Int) == 3) = true := beq_iff_eq.mpr c65
                                    have c65b1 : ((t232.length : Int) != 3) = false := bne_eq_false_iff_eq.mpr c65
                                    clear c65
                                    by_cases c66 : 0 < (t232.length : Int)
                                    · rw [if_pos c66] at H
                                      have c66b0 : decide (0 < (t232.length : Int)) = true := decide_eq_true c66
                                      have c66b1 : decide (0 < t232.length) = true := decide_eq_true (by omega)
                                      clear c66
                                      by_cases c67 : ((rd_T43 t232 0).f1).toList = x0_7.toList
                                      · rw [if_pos c67] at H
                                        have c67b0 : (((rd_T43 t232 0).f1).toList == x0_7.toList) = true := beq_iff_eq.mpr c67
                                        have c67b1 : (((rd_T43 t232 0).f1).toList != x0_7.toList) = false := bne_eq_false_iff_eq.mpr c67
                                        clear c67
                                        by_cases c68 : 1 < (t232.length : Int)
                                        · rw [if_pos c68] at H
                                          have c68b0 : decide (1 < (t232.length : Int)) = true := decide_eq_true c68
                                          have c68b1 : decide (1 < t232.length) = true := decide_eq_true (by omega)
                                          clear c68
                                          obtain rfl := Option.some.inj H
                                          go_wp2_with (first | ((with_reducible refine gate_callee (f := 12) rfl ?_); refine goesL_ (some 65) rfl rfl Try.func12 (by kernel_rfl) rfl #[.string x0_7] rfl (by (try simp only [List.map_toArray, List.map_cons, List.map_nil]); first | done | rfl | (simp only [List.length_drop, List.length_take]; rfl)) ?_; (with_reducible refine (wire_String.calls kj15 x0_7 t220 _ A52.out).mono ?_); rintro e w69 ⟨rfl, hb⟩; refine ⟨_, rfl, ?_⟩; have n0_ := Aside0.mk (below_step (by repeat (first | (with_reducible first | exact HB.out | apply below_alloc | apply pw_below_drewN | apply below_drew1) | exact HB.out)) hb); clear HB; have HB := n0_; clear n0_; (try clear hb); (try clear hb2); (try clear hk); (try clear hi)) | ((with_reducible refine gate_dst (N := 66) rfl ?_); (try (refine gate_guard (by rfl) ?_; dsimp only)); refine Conv.bytes _ 5 rfl (N := 66) rfl 9 22 _ rfl t220 rfl Try.underlying9 Try.underlying22 Try.underlying5 (of_decide_eq_true (by first | (with_reducible assumption) | assumption)) (ok := (fun _ => True)) ((show ∀ k_, w69.heap.size ≤ k_ → (fun _ => True) k_ from fun k_ hk => trivial) _ (Nat.le_refl _)) (Below.refl _ _) (Nat.le_refl _) ?_; intro v222 w70 ho71 hb hg_ hnew_; clear hg_ hnew_; (first | rw [← Ny221.out] at ho71 | (simp only [Int.reduceToNat] at ho71; rw [← Ny221.out] at ho71)); have n0_ := Aside0.mk (Kd.V_lower ho71 (below_size (by repeat (first | (with_reducible first | exact HB.out | apply below_alloc | apply pw_below_drewN | apply below_drew1) | exact HB.out)))); have n1_ := Aside0.mk (below_step (by repeat (first | (with_reducible first | exact HB.out | apply below_alloc | apply pw_below_drewN | apply below_drew1) | exact HB.out)) hb); clear HB; have HO223 := n0_; have HB := n1_; clear n0_ n1_; clear hb ho71; obtain ⟨Ao72, co72, eo72⟩ := Kd.V_slice HO223.out; subst eo72) | ((with_reducible refine gate_callee (f := 17) rfl ?_); refine goesL_ (some 67) rfl rfl Try.func17 (by kernel_rfl) rfl #[.slice Ao72 y221.length co72] rfl (by (try simp only [List.map_toArray, List.map_cons, List.map_nil]); first | done | rfl | (simp only [List.length_drop, List.length_take]; rfl)) ?_; (with_reducible refine (wire_Tokens.calls kj15 _ _ y221 t224 t225 _ ?side1 ?side2 A54.out).mono ?_); (case side1 => repeat (first | exact (Kd.V_reads' HO223.out).2.2 | (with_reducible refine Kd.C_alloc ?_ _) | (with_reducible refine Kd.C_drewN ?_ _) | (with_reducible refine Kd.C_drew ?_))); (case side2 => exact (Kd.V_reads' HO223.out).2.1); rintro e w73 ⟨v226, rfl, ho0, hb⟩; refine ⟨_, rfl, ?_⟩; have n0_ := Aside0.mk (Kd.V_elder' (by (with_reducible repeat (first | apply Kd.V_alloc | apply Kd.V_drewN | apply Kd.V_drew)); exact HO223.out) (Kd.R_base ho0) hb); have n1_ := Aside0.mk (Kd.R_lower ho0 (below_size (by repeat (first | (with_reducible first | exact HB.out | apply below_alloc | apply pw_below_drewN | apply below_drew1) | exact HB.out)))); have n2_ := Aside0.mk (below_step (by repeat (first | (with_reducible first | exact HB.out | apply below_alloc | apply pw_below_drewN | apply below_drew1) | exact HB.out)) hb); clear HO223; clear HB; have HO223 := n0_; have HO227 := n1_; have HB := n2_; clear n0_ n1_ n2_; (try clear hb); (try clear hb2); (try clear hk); (try clear hi); (try clear ho0)) | ((with_reducible refine gate_callee (f := 14) rfl ?_); refine goesL_ (some 72) rfl rfl Try.func14 (by kernel_rfl) rfl #[.string x0_7] rfl (by (try simp only [List.map_toArray, List.map_cons, List.map_nil]); first | done | rfl | (simp only [List.length_drop, List.length_take]; rfl)) ?_; (with_reducible refine (wire_Astring.calls kj15 x0_7 t228 _ A55.out).mono ?_); rintro e w74 ⟨rfl, hb⟩; refine ⟨_, rfl, ?_⟩; have n0_ := Aside0.mk (Kd.V_below (by (with_reducible repeat (first | apply Kd.V_alloc | apply Kd.V_drewN | apply Kd.V_drew)); exact HO223.out) hb); have n1_ := Aside0.mk (Kd.R_below (by (with_reducible repeat (first | apply Kd.R_alloc | apply Kd.R_drewN | apply Kd.R_drew)); exact HO227.out) hb); have n2_ := Aside0.mk (below_step (by repeat (first | (with_reducible first | exact HB.out | apply below_alloc | apply pw_below_drewN | apply below_drew1) | exact HB.out)) hb); clear HO223; clear HO227; clear HB; have HO223 := n0_; have HO227 := n1_; have HB := n2_; clear n0_ n1_ n2_; (try clear hb); (try clear hb2); (try clear hk); (try clear hi)) | ((with_reducible refine gate_dst (N := 74) rfl ?_); (try (refine gate_guard (by rfl) ?_; dsimp only)); refine Conv.bytes _ 5 rfl (N := 74) rfl 9 22 _ rfl (t228 ++ (⟨#[32, 120]⟩ : ByteArray)) rfl Try.underlying9 Try.underlying22 Try.underlying5 (of_decide_eq_true (by first | (with_reducible assumption) | assumption)) (ok := (fun k_ => some k_ ≠ (v226 : Value).ownBlock)) ((show ∀ k_, w74.heap.size ≤ k_ → (fun k_ => some k_ ≠ (v226 : Value).ownBlock) k_ from fun k_ hk => Kd.fresh' (Kd.R_lt (by (with_reducible repeat (first | apply Kd.R_alloc | apply Kd.R_drewN | apply Kd.R_drew)); exact HO227.out)) k_ hk) _ (Nat.le_refl _)) (Below.refl _ _) (Nat.le_refl _) ?_; intro v230 w75 ho76 hb hg_ hnew_; clear hg_ hnew_; (first | rw [← Ny229.out] at ho76 | (simp only [Int.reduceToNat] at ho76; rw [← Ny229.out] at ho76)); have n0_ := Aside0.mk (Kd.V_below (by (with_reducible repeat (first | apply Kd.V_alloc | apply Kd.V_drewN | apply Kd.V_drew)); exact HO223.out) hb); have n1_ := Aside0.mk (Kd.R_below (by (with_reducible repeat (first | apply Kd.R_alloc | apply Kd.R_drewN | apply Kd.R_drew)); exact HO227.out) hb); have n2_ := Aside0.mk (Kd.V_lower ho76 (below_size (by repeat (first | (with_reducible first | exact HB.out | apply below_alloc | apply pw_below_drewN | apply below_drew1) | exact HB.out)))); have n3_ := Aside0.mk (below_step (by repeat (first | (with_reducible first | exact HB.out | apply below_alloc | apply pw_below_drewN | apply below_drew1) | exact HB.out)) hb); clear HO223; clear HO227; clear HB; have HO223 := n0_; have HO227 := n1_; have HO231 := n2_; have HB := n3_; clear n0_ n1_ n2_ n3_; clear hb ho76; obtain ⟨Ao77, co77, eo77⟩ := Kd.V_slice HO231.out; subst eo77) | ((with_reducible refine gate_callee (f := 17) rfl ?_); refine goesL_ (some 75) rfl rfl Try.func17 (by kernel_rfl) rfl #[.slice Ao77 y229.length co77] rfl (by (try simp only [List.map_toArray, List.map_cons, List.map_nil]); first | done | rfl | (simp only [List.length_drop, List.length_take]; rfl)) ?_; (with_reducible refine (wire_Tokens.calls kj15 _ _ y229 t232 t233 _ ?side1 ?side2 A58.out).mono ?_); (case side1 => repeat (first | exact (Kd.V_reads' HO231.out).2.2 | (with_reducible refine Kd.C_alloc ?_ _) | (with_reducible refine Kd.C_drewN ?_ _) | (with_reducible refine Kd.C_drew ?_))); (case side2 => exact (Kd.V_reads' HO231.out).2.1); rintro e w78 ⟨v234, rfl, ho0, hb⟩; refine ⟨_, rfl, ?_⟩; have n0_ := Aside0.mk (Kd.V_elder' (by (with_reducible repeat (first | apply Kd.V_alloc | apply Kd.V_drewN | apply Kd.V_drew)); exact HO223.out) (Kd.R_base ho0) hb); have n1_ := Aside0.mk (Kd.R_elder' (by (with_reducible repeat (first | apply Kd.R_alloc | apply Kd.R_drewN | apply Kd.R_drew)); exact HO227.out) (Kd.R_base ho0) hb); have n2_ := Aside0.mk (Kd.V_elder' (by (with_reducible repeat (first | apply Kd.V_alloc | apply Kd.V_drewN | apply Kd.V_drew)); exact HO231.out) (Kd.R_base ho0) hb); have n3_ := Aside0.mk (Kd.R_lower (Kd.R_new' ho0 (Kd.R_lt (by (with_reducible repeat (first | apply Kd.R_alloc | apply Kd.R_drewN | apply Kd.R_drew)); exact HO227.out))) (below_size (by repeat (first | (with_reducible first | exact HB.out | apply below_alloc | apply pw_below_drewN | apply below_drew1) | exact HB.out)))); have n4_ := Aside0.mk (below_step (by repeat (first | (with_reducible first | exact HB.out | apply below_alloc | apply pw_below_drewN | apply below_drew1) | exact HB.out)) hb); clear HO223; clear HO227; clear HO231; clear HB; have HO223 := n0_; have HO227 := n1_; have HO231 := n2_; have HO235 := n3_; have HB := n4_; clear n0_ n1_ n2_ n3_ n4_; (try clear hb); (try clear hb2); (try clear hk); (try clear hi); (try clear ho0); obtain ⟨Ao79, co79, eo79⟩ := Kd.R_slice HO227.out; subst eo79; have p236 : 0 ≤ (0 : Int) := (by omega); have q236 : 0 < (t224.length : Int) := of_decide_eq_true (by first | (with_reducible assumption) | assumption); obtain ⟨ad236, e236, hx236_0, hx236_1⟩ := at_T43 (Kd.R_reads' HO227.out).2.2 0 p236 q236; cases e236; have qi236 : (0 < t224.length) = True := eq_true (by omega); (try rw [show ((0 : Int)).toNat = 0 from rfl] at hx236_0); (try rw [show 0 * 2 = 0 from rfl] at hx236_0); (try rw [Addr.add_zero'] at hx236_0); (try rw [show ((0 : Int)).toNat = 0 from rfl] at hx236_1); (try rw [show 0 * 2 = 0 from rfl] at hx236_1); (try rw [Addr.add_zero'] at hx236_1); replace p236 := eq_true p236; replace q236 := eq_true q236; have p237 : 0 ≤ (0 : Int) := (by omega); have q237 : 0 < (t224.length : Int) := of_decide_eq_true (by first | (with_reducible assumption) | assumption); obtain ⟨ad237, e237, hx237_0, hx237_1⟩ := at_T43 (Kd.R_reads' HO227.out).2.2 0 p237 q237; obtain rfl : ad236 = ad237 := (by injection e237); have qi237 : (0 < t224.length) = True := eq_true (by omega); (try rw [show ((0 : Int)).toNat = 0 from rfl] at hx237_0); (try rw [show 0 * 2 = 0 from rfl] at hx237_0); (try rw [Addr.add_zero'] at hx237_0); (try rw [show ((0 : Int)).toNat = 0 from rfl] at hx237_1); (try rw [show 0 * 2 = 0 from rfl] at hx237_1); (try rw [Addr.add_zero'] at hx237_1); replace p237 := eq_true p237; replace q237 := eq_true q237; obtain ⟨Ao80, co80, eo80⟩ := Kd.R_slice HO235.out; subst eo80; have p238 : 0 ≤ (0 : Int) := (by omega); have q238 : 0 < (t232.length : Int) := of_decide_eq_true (by first | (with_reducible assumption) | assumption); obtain ⟨ad238, e238, hx238_0, hx238_1⟩ := at_T43 (Kd.R_reads' HO235.out).2.2 0 p238 q238; cases e238; have qi238 : (0 < t232.length) = True := eq_true (by omega); (try rw [show ((0 : Int)).toNat = 0 from rfl] at hx238_0); (try rw [show 0 * 2 = 0 from rfl] at hx238_0); (try rw [Addr.add_zero'] at hx238_0); (try rw [show ((0 : Int)).toNat = 0 from rfl] at hx238_1); (try rw [show 0 * 2 = 0 from rfl] at hx238_1); (try rw [Addr.add_zero'] at hx238_1); replace p238 := eq_true p238; replace q238 := eq_true q238; have p239 : 0 ≤ (1 : Int) := (by omega); have q239 : 1 < (t232.length : Int) := of_decide_eq_true (by first | (with_reducible assumption) | assumption); obtain ⟨ad239, e239, hx239_0, hx239_1⟩ := at_T43 (Kd.R_reads' HO235.out).2.2 1 p239 q239; obtain rfl : ad238 = ad239 := (by injection e239); (try simp only [show (1 : Int).toNat = 1 from rfl, Nat.reduceMul, Nat.reduceEqDiff, Go.Addr.add, ↓reduceIte] at hx239_0); (try simp only [show (1 : Int).toNat = 1 from rfl, Nat.reduceMul, Nat.reduceEqDiff, Go.Addr.add, ↓reduceIte] at hx239_1); have qi239 : (1 < t232.length) = True := eq_true (by omega); (try rw [show ((1 : Int)).toNat = 1 from rfl] at hx239_0); (try rw [show 1 * 2 = 2 from rfl] at hx239_0); (try rw [show ((1 : Int)).toNat = 1 from rfl] at hx239_1); (try rw [show 1 * 2 = 2 from rfl] at hx239_1); replace p239 := eq_true p239; replace q239 := eq_true q239))
                                          go_ret
                                          exact ⟨by first | rfl | (simp [errW_none, errW_some] <;> rfl) | (simp [*, errW_none, errW_some] <;> rfl), by repeat (first | (with_reducible first | exact HB.out | apply below_alloc | apply pw_below_drewN | apply below_drew1) | exact HB.out)⟩
                                        · rw [if_neg c68] at H
                                          exact absurd H (by simp)
                                      · rw [if_neg c67] at H
                                        have c67b0 : (((rd_T43 t232 0).f1).toList == x0_7.toList) = false := beq_eq_false_iff_ne.mpr c67
                                        have c67b1 : (((rd_T43 t232 0).f1).toList != x0_7.toList) = true := bne_iff_ne.mpr c67
                                        obtain rfl := Option.some.inj H
                                        go_wp2_with (first | ((with_reducible refine gate_callee (f := 12) rfl ?_); refine goesL_ (some 65) rfl rfl Try.func12 (by kernel_rfl) rfl #[.string x0_7] rfl (by (try simp only [List.map_toArray, List.map_cons, List.map_nil]); first | done | rfl | (simp only [List.length_drop, List.length_take]; rfl)) ?_; (with_reducible refine (wire_String.calls kj15 x0_7 t220 _ A52.out).mono ?_); rintro e w81 ⟨rfl, hb⟩; refine ⟨_, rfl, ?_⟩; have n0_ := Aside0.mk (below_step (by repeat (first | (with_reducible first | exact HB.out | apply below_alloc | apply pw_below_drewN | apply below_drew1) | exact HB.out)) hb); clear HB; have HB := n0_; clear n0_; (try clear hb); (try clear hb2); (try clear hk); (try clear hi)) | ((with_reducible refine gate_dst (N := 66) rfl ?_); (try (refine gate_guard (by rfl) ?_; dsimp only)); refine Conv.bytes _ 5 rfl (N := 66) rfl 9 22 _ rfl t220 rfl Try.underlying9 Try.underlying22 Try.underlying5 (of_decide_eq_true (by first | (with_reducible assumption) | assumption)) (ok := (fun _ => True)) ((show ∀ k_, w81.heap.size ≤ k_ → (fun _ => True) k_ from fun k_ hk => trivial) _ (Nat.le_refl _)) (Below.refl _ _) (Nat.le_refl _) ?_; intro v222 w82 ho83 hb hg_ hnew_; clear hg_ hnew_; (first | rw [← Ny221.out] at ho83 | (simp only [Int.reduceToNat] at ho83; rw [← Ny221.out] at ho83)); have n0_ := Aside0.mk (Kd.V_lower ho83 (below_size (by repeat (first | (with_reducible first | exact HB.out | apply below_alloc | apply pw_below_drewN | apply below_drew1) | exact HB.out)))); have n1_ := Aside0.mk (below_step (by repeat (first | (with_reducible first | exact HB.out | apply below_alloc | apply pw_below_drewN | apply below_drew1) | exact HB.out)) hb); clear HB; have HO223 := n0_; have HB := n1_; clear n0_ n1_; clear hb ho83; obtain ⟨Ao84, co84, eo84⟩ := Kd.V_slice HO223.out; subst eo84) | ((with_reducible refine gate_callee (f := 17) rfl ?_); refine goesL_ (some 67) rfl rfl Try.func17 (by kernel_rfl) rfl #[.slice Ao84 y221.length co84] rfl (by (try simp only [List.map_toArray, List.map_cons, List.map_nil]); first | done | rfl | (simp only [List.length_drop, List.length_take]; rfl)) ?_; (with_reducible refine (wire_Tokens.calls kj15 _ _ y221 t224 t225 _ ?side1 ?side2 A54.out).mono ?_); (case side1 => repeat (first | exact (Kd.V_reads' HO223.out).2.2 | (with_reducible refine Kd.C_alloc ?_ _) | (with_reducible refine Kd.C_drewN ?_ _) | (with_reducible refine Kd.C_drew ?_))); (case side2 => exact (Kd.V_reads' HO223.out).2.1); rintro e w85 ⟨v226, rfl, ho0, hb⟩; refine ⟨_, rfl, ?_⟩; have n0_ := Aside0.mk (Kd.V_elder' (by (with_reducible repeat (first | apply Kd.V_alloc | apply Kd.V_drewN | apply Kd.V_drew)); exact HO223.out) (Kd.R_base ho0) hb); have n1_ := Aside0.mk (Kd.R_lower ho0 (below_size (by repeat (first | (with_reducible first | exact HB.out | apply below_alloc | apply pw_below_drewN | apply below_drew1) | exact HB.out)))); have n2_ := Aside0.mk (below_step (by repeat (first | (with_reducible first | exact HB.out | apply below_alloc | apply pw_below_drewN | apply below_drew1) | exact HB.out)) hb); clear HO223; clear HB; have HO223 := n0_; have HO227 := n1_; have HB := n2_; clear n0_ n1_ n2_; (try clear hb); (try clear hb2); (try clear hk); (try clear hi); (try clear ho0)) | ((with_reducible refine gate_callee (f := 14) rfl ?_); refine goesL_ (some 72) rfl rfl Try.func14 (by kernel_rfl) rfl #[.string x0_7] rfl (by (try simp only [List.map_toArray, List.map_cons, List.map_nil]); first | done | rfl | (simp only [List.length_drop, List.length_take]; rfl)) ?_; (with_reducible refine (wire_Astring.calls kj15 x0_7 t228 _ A55.out).mono ?_); rintro e w86 ⟨rfl, hb⟩; refine ⟨_, rfl, ?_⟩; have n0_ := Aside0.mk (Kd.V_below (by (with_reducible repeat (first | apply Kd.V_alloc | apply Kd.V_drewN | apply Kd.V_drew)); exact HO223.out) hb); have n1_ := Aside0.mk (Kd.R_below (by (with_reducible repeat (first | apply Kd.R_alloc | apply Kd.R_drewN | apply Kd.R_drew)); exact HO227.out) hb); have n2_ := Aside0.mk (below_step (by repeat (first | (with_reducible first | exact HB.out | apply below_alloc | apply pw_below_drewN | apply below_drew1) | exact HB.out)) hb); clear HO223; clear HO227; clear HB; have HO223 := n0_; have HO227 := n1_; have HB := n2_; clear n0_ n1_ n2_; (try clear hb); (try clear hb2); (try clear hk); (try clear hi)) | ((with_reducible refine gate_dst (N := 74) rfl ?_); (try (refine gate_guard (by rfl) ?_; dsimp only)); refine Conv.bytes _ 5 rfl (N := 74) rfl 9 22 _ rfl (t228 ++ (⟨#[32, 120]⟩ : ByteArray)) rfl Try.underlying9 Try.underlying22 Try.underlying5 (of_decide_eq_true (by first | (with_reducible assumption) | assumption)) (ok := (fun k_ => some k_ ≠ (v226 : Value).ownBlock)) ((show ∀ k_, w86.heap.size ≤ k_ → (fun k_ => some k_ ≠ (v226 : Value).ownBlock) k_ from fun k_ hk => Kd.fresh' (Kd.R_lt (by (with_reducible repeat (first | apply Kd.R_alloc | apply Kd.R_drewN | apply Kd.R_drew)); exact HO227.out)) k_ hk) _ (Nat.le_refl _)) (Below.refl _ _) (Nat.le_refl _) ?_; intro v230 w87 ho88 hb hg_ hnew_; clear hg_ hnew_; (first | rw [← Ny229.out] at ho88 | (simp only [Int.reduceToNat] at ho88; rw [← Ny229.out] at ho88)); have n0_ := Aside0.mk (Kd.V_below (by (with_reducible repeat (first | apply Kd.V_alloc | apply Kd.V_drewN | apply Kd.V_drew)); exact HO223.out) hb); have n1_ := Aside0.mk (Kd.R_below (by (with_reducible repeat (first | apply Kd.R_alloc | apply Kd.R_drewN | apply Kd.R_drew)); exact HO227.out) hb); have n2_ := Aside0.mk (Kd.V_lower ho88 (below_size (by repeat (first | (with_reducible first | exact HB.out | apply below_alloc | apply pw_below_drewN | apply below_drew1) | exact HB.out)))); have n3_ := Aside0.mk (below_step (by repeat (first | (with_reducible first | exact HB.out | apply below_alloc | apply pw_below_drewN | apply below_drew1) | exact HB.out)) hb); clear HO223; clear HO227; clear HB; have HO223 := n0_; have HO227 := n1_; have HO231 := n2_; have HB := n3_; clear n0_ n1_ n2_ n3_; clear hb ho88; obtain ⟨Ao89, co89, eo89⟩ := Kd.V_slice HO231.out; subst eo89) | ((with_reducible refine gate_callee (f := 17) rfl ?_); refine goesL_ (some 75) rfl rfl Try.func17 (by kernel_rfl) rfl #[.slice Ao89 y229.length co89] rfl (by (try simp only [List.map_toArray, List.map_cons, List.map_nil]); first | done | rfl | (simp only [List.length_drop, List.length_take]; rfl)) ?_; (with_reducible refine (wire_Tokens.calls kj15 _ _ y229 t232 t233 _ ?side1 ?side2 A58.out).mono ?_); (case side1 => repeat (first | exact (Kd.V_reads' HO231.out).2.2 | (with_reducible refine Kd.C_alloc ?_ _) | (with_reducible refine Kd.C_drewN ?_ _) | (with_reducible refine Kd.C_drew ?_))); (case side2 => exact (Kd.V_reads' HO231.out).2.1); rintro e w90 ⟨v234, rfl, ho0, hb⟩; refine ⟨_, rfl, ?_⟩; have n0_ := Aside0.mk (Kd.V_elder' (by (with_reducible repeat (first | apply Kd.V_alloc | apply Kd.V_drewN | apply Kd.V_drew)); exact HO223.out) (Kd.R_base ho0) hb); have n1_ := Aside0.mk (Kd.R_elder' (by (with_reducible repeat (first | apply Kd.R_alloc | apply Kd.R_drewN | apply Kd.R_drew)); exact HO227.out) (Kd.R_base ho0) hb); have n2_ := Aside0.mk (Kd.V_elder' (by (with_reducible repeat (first | apply Kd.V_alloc | apply Kd.V_drewN | apply Kd.V_drew)); exact HO231.out) (Kd.R_base ho0) hb); have n3_ := Aside0.mk (Kd.R_lower (Kd.R_new' ho0 (Kd.R_lt (by (with_reducible repeat (first | apply Kd.R_alloc | apply Kd.R_drewN | apply Kd.R_drew)); exact HO227.out))) (below_size (by repeat (first | (with_reducible first | exact HB.out | apply below_alloc | apply pw_below_drewN | apply below_drew1) | exact HB.out)))); have n4_ := Aside0.mk (below_step (by repeat (first | (with_reducible first | exact HB.out | apply below_alloc | apply pw_below_drewN | apply below_drew1) | exact HB.out)) hb); clear HO223; clear HO227; clear HO231; clear HB; have HO223 := n0_; have HO227 := n1_; have HO231 := n2_; have HO235 := n3_; have HB := n4_; clear n0_ n1_ n2_ n3_ n4_; (try clear hb); (try clear hb2); (try clear hk); (try clear hi); (try clear ho0); obtain ⟨Ao91, co91, eo91⟩ := Kd.R_slice HO227.out; subst eo91; have p236 : 0 ≤ (0 : Int) := (by omega); have q236 : 0 < (t224.length : Int) := of_decide_eq_true (by first | (with_reducible assumption) | assumption); obtain ⟨ad236, e236, hx236_0, hx236_1⟩ := at_T43 (Kd.R_reads' HO227.out).2.2 0 p236 q236; cases e236; have qi236 : (0 < t224.length) = True := eq_true (by omega); (try rw [show ((0 : Int)).toNat = 0 from rfl] at hx236_0); (try rw [show 0 * 2 = 0 from rfl] at hx236_0); (try rw [Addr.add_zero'] at hx236_0); (try rw [show ((0 : Int)).toNat = 0 from rfl] at hx236_1); (try rw [show 0 * 2 = 0 from rfl] at hx236_1); (try rw [Addr.add_zero'] at hx236_1); replace p236 := eq_true p236; replace q236 := eq_true q236; have p237 : 0 ≤ (0 : Int) := (by omega); have q237 : 0 < (t224.length : Int) := of_decide_eq_true (by first | (with_reducible assumption) | assumption); obtain ⟨ad237, e237, hx237_0, hx237_1⟩ := at_T43 (Kd.R_reads' HO227.out).2.2 0 p237 q237; obtain rfl : ad236 = ad237 := (by injection e237); have qi237 : (0 < t224.length) = True := eq_true (by omega); (try rw [show ((0 : Int)).toNat = 0 from rfl] at hx237_0); (try rw [show 0 * 2 = 0 from rfl] at hx237_0); (try rw [Addr.add_zero'] at hx237_0); (try rw [show ((0 : Int)).toNat = 0 from rfl] at hx237_1); (try rw [show 0 * 2 = 0 from rfl] at hx237_1); (try rw [Addr.add_zero'] at hx237_1); replace p237 := eq_true p237; replace q237 := eq_true q237; obtain ⟨Ao92, co92, eo92⟩ := Kd.R_slice HO235.out; subst eo92; have p238 : 0 ≤ (0 : Int) := (by omega); have q238 : 0 < (t232.length : Int) := of_decide_eq_true (by first | (with_reducible assumption) | assumption); obtain ⟨ad238, e238, hx238_0, hx238_1⟩ := at_T43 (Kd.R_reads' HO235.out).2.2 0 p238 q238; cases e238; have qi238 : (0 < t232.length) = True := eq_true (by omega); (try rw [show ((0 : Int)).toNat = 0 from rfl] at hx238_0); (try rw [show 0 * 2 = 0 from rfl] at hx238_0); (try rw [Addr.add_zero'] at hx238_0); (try rw [show ((0 : Int)).toNat = 0 from rfl] at hx238_1); (try rw [show 0 * 2 = 0 from rfl] at hx238_1); (try rw [Addr.add_zero'] at hx238_1); replace p238 := eq_true p238; replace q238 := eq_true q238))
                                        go_ret
                                        exact ⟨by first | rfl | (simp [errW_none, errW_some] <;> rfl) | (simp [*, errW_none, errW_some] <;> rfl), by repeat (first | (with_reducible first | exact HB.out | apply below_alloc | apply pw_below_drewN | apply below_drew1) | exact HB.out)⟩
                                    · rw [if_neg c66] at H
                                      exact absurd H (by simp)
                                  · rw [if_neg c65] at H
                                    have c65b0 : ((t232.length : Int) == 3) = false := beq_eq_false_iff_ne.mpr c65
                                    have c65b1 : ((t232.length : Int) != 3) = true := bne_iff_ne.mpr c65
                                    obtain rfl := Option.some.inj H
                                    go_wp2_with (first | ((with_reducible refine gate_callee (f := 12) rfl ?_); refine goesL_ (some 65) rfl rfl Try.func12 (by kernel_rfl) rfl #[.string x0_7] rfl (by (try simp only [List.map_toArray, List.map_cons, List.map_nil]); first | done | rfl | (simp only [List.length_drop, List.length_take]; rfl)) ?_; (with_reducible refine (wire_String.calls kj15 x0_7 t220 _ A52.out).mono ?_); rintro e w93 ⟨rfl, hb⟩; refine ⟨_, rfl, ?_⟩; have n0_ := Aside0.mk (below_step (by repeat (first | (with_reducible first | exact HB.out | apply below_alloc | apply pw_below_drewN | apply below_drew1) | exact HB.out)) hb); clear HB; have HB := n0_; clear n0_; (try clear hb); (try clear hb2); (try clear hk); (try clear hi)) | ((with_reducible refine gate_dst (N := 66) rfl ?_); (try (refine gate_guard (by rfl) ?_; dsimp only)); refine Conv.bytes _ 5 rfl (N := 66) rfl 9 22 _ rfl t220 rfl Try.underlying9 Try.underlying22 Try.underlying5 (of_decide_eq_true (by first | (with_reducible assumption) | assumption)) (ok := (fun _ => True)) ((show ∀ k_, w93.heap.size ≤ k_ → (fun _ => True) k_ from fun k_ hk => trivial) _ (Nat.le_refl _)) (Below.refl _ _) (Nat.le_refl _) ?_; intro v222 w94 ho95 hb hg_ hnew_; clear hg_ hnew_; (first | rw [← Ny221.out] at ho95 | (simp only [Int.reduceToNat] at ho95; rw [← Ny221.out] at ho95)); have n0_ := Aside0.mk (Kd.V_lower ho95 (below_size (by repeat (first | (with_reducible first | exact HB.out | apply below_alloc | apply pw_below_drewN | apply below_drew1) | exact HB.out)))); have n1_ := Aside0.mk (below_step (by repeat (first | (with_reducible first | exact HB.out | apply below_alloc | apply pw_below_drewN | apply below_drew1) | exact HB.out)) hb); clear HB; have HO223 := n0_; have HB := n1_; clear n0_ n1_; clear hb ho95; obtain ⟨Ao96, co96, eo96⟩ := Kd.V_slice HO223.out; subst eo96) | ((with_reducible refine gate_callee (f := 17) rfl ?_); refine goesL_ (some 67) rfl rfl Try.func17 (by kernel_rfl) rfl #[.slice Ao96 y221.length co96] rfl (by (try simp only [List.map_toArray, List.map_cons, List.map_nil]); first | done | rfl | (simp only [List.length_drop, List.length_take]; rfl)) ?_; (with_reducible refine (wire_Tokens.calls kj15 _ _ y221 t224 t225 _ ?side1 ?side2 A54.out).mono ?_); (case side1 => repeat (first | exact (Kd.V_reads' HO223.out).2.2 | (with_reducible refine Kd.C_alloc ?_ _) | (with_reducible refine Kd.C_drewN ?_ _) | (with_reducible refine Kd.C_drew ?_))); (case side2 => exact (Kd.V_reads' HO223.out).2.1); rintro e w97 ⟨v226, rfl, ho0, hb⟩; refine ⟨_, rfl, ?_⟩; have n0_ := Aside0.mk (Kd.V_elder' (by (with_reducible repeat (first | apply Kd.V_alloc | apply Kd.V_drewN | apply Kd.V_drew)); exact HO223.out) (Kd.R_base ho0) hb); have n1_ := Aside0.mk (Kd.R_lower ho0 (below_size (by repeat (first | (with_reducible first | exact HB.out | apply below_alloc | apply pw_below_drewN | apply below_drew1) | exact HB.out)))); have n2_ := Aside0.mk (below_step (by repeat (first | (with_reducible first | exact HB.out | apply below_alloc | apply pw_below_drewN | apply below_drew1) | exact HB.out)) hb); clear HO223; clear HB; have HO223 := n0_; have HO227 := n1_; have HB := n2_; clear n0_ n1_ n2_; (try clear hb); (try clear hb2); (try clear hk); (try clear hi); (try clear ho0)) | ((with_reducible refine gate_callee (f := 14) rfl ?_); refine goesL_ (some 72) rfl rfl Try.func14 (by kernel_rfl) rfl #[.string x0_7] rfl (by (try simp only [List.map_toArray, List.map_cons, List.map_nil]); first | done | rfl | (simp only [List.length_drop, List.length_take]; rfl)) ?_; (with_reducible refine (wire_Astring.calls kj15 x0_7 t228 _ A55.out).mono ?_); rintro e w98 ⟨rfl, hb⟩; refine ⟨_, rfl, ?_⟩; have n0_ := Aside0.mk (Kd.V_below (by (with_reducible repeat (first | apply Kd.V_alloc | apply Kd.V_drewN | apply Kd.V_drew)); exact HO223.out) hb); have n1_ := Aside0.mk (Kd.R_below (by (with_reducible repeat (first | apply Kd.R_alloc | apply Kd.R_drewN | apply Kd.R_drew)); exact HO227.out) hb); have n2_ := Aside0.mk (below_step (by repeat (first | (with_reducible first | exact HB.out | apply below_alloc | apply pw_below_drewN | apply below_drew1) | exact HB.out)) hb); clear HO223; clear HO227; clear HB; have HO223 := n0_; have HO227 := n1_; have HB := n2_; clear n0_ n1_ n2_; (try clear hb); (try clear hb2); (try clear hk); (try clear hi)) | ((with_reducible refine gate_dst (N := 74) rfl ?_); (try (refine gate_guard (by rfl) ?_; dsimp only)); refine Conv.bytes _ 5 rfl (N := 74) rfl 9 22 _ rfl (t228 ++ (⟨#[32, 120]⟩ : ByteArray)) rfl Try.underlying9 Try.underlying22 Try.underlying5 (of_decide_eq_true (by first | (with_reducible assumption) | assumption)) (ok := (fun k_ => some k_ ≠ (v226 : Value).ownBlock)) ((show ∀ k_, w98.heap.size ≤ k_ → (fun k_ => some k_ ≠ (v226 : Value).ownBlock) k_ from fun k_ hk => Kd.fresh' (Kd.R_lt (by (with_reducible repeat (first | apply Kd.R_alloc | apply Kd.R_drewN | apply Kd.R_drew)); exact HO227.out)) k_ hk) _ (Nat.le_refl _)) (Below.refl _ _) (Nat.le_refl _) ?_; intro v230 w99 ho100 hb hg_ hnew_; clear hg_ hnew_; (first | rw [← Ny229.out] at ho100 | (simp only [Int.reduceToNat] at ho100; rw [← Ny229.out] at ho100)); have n0_ := Aside0.mk (Kd.V_below (by (with_reducible repeat (first | apply Kd.V_alloc | apply Kd.V_drewN | apply Kd.V_drew)); exact HO223.out) hb); have n1_ := Aside0.mk (Kd.R_below (by (with_reducible repeat (first | apply Kd.R_alloc | apply Kd.R_drewN | apply Kd.R_drew)); exact HO227.out) hb); have n2_ := Aside0.mk (Kd.V_lower ho100 (below_size (by repeat (first | (with_reducible first | exact HB.out | apply below_alloc | apply pw_below_drewN | apply below_drew1) | exact HB.out)))); have n3_ := Aside0.mk (below_step (by repeat (first | (with_reducible first | exact HB.out | apply below_alloc | apply pw_below_drewN | apply below_drew1) | exact HB.out)) hb); clear HO223; clear HO227; clear HB; have HO223 := n0_; have HO227 := n1_; have HO231 := n2_; have HB := n3_; clear n0_ n1_ n2_ n3_; clear hb ho100; obtain ⟨Ao101, co101, eo101⟩ := Kd.V_slice HO231.out; subst eo101) | ((with_reducible refine gate_callee (f := 17) rfl ?_); refine goesL_ (some 75) rfl rfl Try.func17 (by kernel_rfl) rfl #[.slice Ao101 y229.length co101] rfl (by (try simp only [List.map_toArray, List.map_cons, List.map_nil]); first | done | rfl | (simp only [List.length_drop, List.length_take]; rfl)) ?_; (with_reducible refine (wire_Tokens.calls kj15 _ _ y229 t232 t233 _ ?side1 ?side2 A58.out).mono ?_); (case side1 => repeat (first | exact (Kd.V_reads' HO231.out).2.2 | (with_reducible refine Kd.C_alloc ?_ _) | (with_reducible refine Kd.C_drewN ?_ _) | (with_reducible refine Kd.C_drew ?_))); (case side2 => exact (Kd.V_reads' HO231.out).2.1); rintro e w102 ⟨v234, rfl, ho0, hb⟩; refine ⟨_, rfl, ?_⟩; have n0_ := Aside0.mk (Kd.V_elder' (by (with_reducible repeat (first | apply Kd.V_alloc | apply Kd.V_drewN | apply Kd.V_drew)); exact HO223.out) (Kd.R_base ho0) hb); have n1_ := Aside0.mk (Kd.R_elder' (by (with_reducible repeat (first | apply Kd.R_alloc | apply Kd.R_drewN | apply Kd.R_drew)); exact HO227.out) (Kd.R_base ho0) hb); have n2_ := Aside0.mk (Kd.V_elder' (by (with_reducible repeat (first | apply Kd.V_alloc | apply Kd.V_drewN | apply Kd.V_drew)); exact HO231.out) (Kd.R_base ho0) hb); have n3_ := Aside0.mk (Kd.R_lower (Kd.R_new' ho0 (Kd.R_lt (by (with_reducible repeat (first | apply Kd.R_alloc | apply Kd.R_drewN | apply Kd.R_drew)); exact HO227.out))) (below_size (by repeat (first | (with_reducible first | exact HB.out | apply below_alloc | apply pw_below_drewN | apply below_drew1) | exact HB.out)))); have n4_ := Aside0.mk (below_step (by repeat (first | (with_reducible first | exact HB.out | apply below_alloc | apply pw_below_drewN | apply below_drew1) | exact HB.out)) hb); clear HO223; clear HO227; clear HO231; clear HB; have HO223 := n0_; have HO227 := n1_; have HO231 := n2_; have HO235 := n3_; have HB := n4_; clear n0_ n1_ n2_ n3_ n4_; (try clear hb); (try clear hb2); (try clear hk); (try clear hi); (try clear ho0); obtain ⟨Ao103, co103, eo103⟩ := Kd.R_slice HO227.out; subst eo103; have p236 : 0 ≤ (0 : Int) := (by omega); have q236 : 0 < (t224.length : Int) := of_decide_eq_true (by first | (with_reducible assumption) | assumption); obtain ⟨ad236, e236, hx236_0, hx236_1⟩ := at_T43 (Kd.R_reads' HO227.out).2.2 0 p236 q236; cases e236; have qi236 : (0 < t224.length) = True := eq_true (by omega); (try rw [show ((0 : Int)).toNat = 0 from rfl] at hx236_0); (try rw [show 0 * 2 = 0 from rfl] at hx236_0); (try rw [Addr.add_zero'] at hx236_0); (try rw [show ((0 : Int)).toNat = 0 from rfl] at hx236_1); (try rw [show 0 * 2 = 0 from rfl] at hx236_1); (try rw [Addr.add_zero'] at hx236_1); replace p236 := eq_true p236; replace q236 := eq_true q236; have p237 : 0 ≤ (0 : Int) := (by omega); have q237 : 0 < (t224.length : Int) := of_decide_eq_true (by first | (with_reducible assumption) | assumption); obtain ⟨ad237, e237, hx237_0, hx237_1⟩ := at_T43 (Kd.R_reads' HO227.out).2.2 0 p237 q237; obtain rfl : ad236 = ad237 := (by injection e237); have qi237 : (0 < t224.length) = True := eq_true (by omega); (try rw [show ((0 : Int)).toNat = 0 from rfl] at hx237_0); (try rw [show 0 * 2 = 0 from rfl] at hx237_0); (try rw [Addr.add_zero'] at hx237_0); (try rw [show ((0 : Int)).toNat = 0 from rfl] at hx237_1); (try rw [show 0 * 2 = 0 from rfl] at hx237_1); (try rw [Addr.add_zero'] at hx237_1); replace p237 := eq_true p237; replace q237 := eq_true q237; obtain ⟨Ao104, co104, eo104⟩ := Kd.R_slice HO235.out; subst eo104))
                                    go_ret
                                    exact ⟨by first | rfl | (simp [errW_none, errW_some] <;> rfl) | (simp [*, errW_none, errW_some] <;> rfl), by repeat (first | (with_reducible first | exact HB.out | apply below_alloc | apply pw_below_drewN | apply below_drew1) | exact HB.out)⟩
                                · rw [if_neg c64] at H
                                  have c64b0 : (((rd_T43 t224 0).f1).toList == x0_7.toList) = false := beq_eq_false_iff_ne.mpr c64
                                  have c64b1 : (((rd_T43 t224 0).f1).toList != x0_7.toList) = true := bne_iff_ne.mpr c64
                                  obtain rfl := Option.some.inj H
                                  go_wp2_with (first | ((with_reducible refine gate_callee (f := 12) rfl ?_); refine goesL_ (some 65) rfl rfl Try.func12 (by kernel_rfl) rfl #[.string x0_7] rfl (by (try simp only [List.map_toArray, List.map_cons, List.map_nil]); first | done | rfl | (simp only [List.length_drop, List.length_take]; rfl)) ?_; (with_reducible refine (wire_String.calls kj15 x0_7 t220 _ A52.out).mono ?_); rintro e w105 ⟨rfl, hb⟩; refine ⟨_, rfl, ?_⟩; have n0_ := Aside0.mk (below_step (by repeat (first | (with_reducible first | exact HB.out | apply below_alloc | apply pw_below_drewN | apply below_drew1) | exact HB.out)) hb); clear HB; have HB := n0_; clear n0_; (try clear hb); (try clear hb2); (try clear hk); (try clear hi)) | ((with_reducible refine gate_dst (N := 66) rfl ?_); (try (refine gate_guard (by rfl) ?_; dsimp only)); refine Conv.bytes _ 5 rfl (N := 66) rfl 9 22 _ rfl t220 rfl Try.underlying9 Try.underlying22 Try.underlying5 (of_decide_eq_true (by first | (with_reducible assumption) | assumption)) (ok := (fun _ => True)) ((show ∀ k_, w105.heap.size ≤ k_ → (fun _ => True) k_ from fun k_ hk => trivial) _ (Nat.le_refl _)) (Below.refl _ _) (Nat.le_refl _) ?_; intro v222 w106 ho107 hb hg_ hnew_; clear hg_ hnew_; (first | rw [← Ny221.out] at ho107 | (simp only [Int.reduceToNat] at ho107; rw [← Ny221.out] at ho107)); have n0_ := Aside0.mk (Kd.V_lower ho107 (below_size (by repeat (first | (with_reducible first | exact HB.out | apply below_alloc | apply pw_below_drewN | apply below_drew1) | exact HB.out)))); have n1_ := Aside0.mk (below_step (by repeat (first | (with_reducible first | exact HB.out | apply below_alloc | apply pw_below_drewN | apply below_drew1) | exact HB.out)) hb); clear HB; have HO223 := n0_; have HB := n1_; clear n0_ n1_; clear hb ho107; obtain ⟨Ao108, co108, eo108⟩ := Kd.V_slice HO223.out; subst eo108) | ((with_reducible refine gate_callee (f := 17) rfl ?_); refine goesL_ (some 67) rfl rfl Try.func17 (by kernel_rfl) rfl #[.slice Ao108 y221.length co108] rfl (by (try simp only [List.map_toArray, List.map_cons, List.map_nil]); first | done | rfl | (simp only [List.length_drop, List.length_take]; rfl)) ?_; (with_reducible refine (wire_Tokens.calls kj15 _ _ y221 t224 t225 _ ?side1 ?side2 A54.out).mono ?_); (case side1 => repeat (first | exact (Kd.V_reads' HO223.out).2.2 | (with_reducible refine Kd.C_alloc ?_ _) | (with_reducible refine Kd.C_drewN ?_ _) | (with_reducible refine Kd.C_drew ?_))); (case side2 => exact (Kd.V_reads' HO223.out).2.1); rintro e w109 ⟨v226, rfl, ho0, hb⟩; refine ⟨_, rfl, ?_⟩; have n0_ := Aside0.mk (Kd.V_elder' (by (with_reducible repeat (first | apply Kd.V_alloc | apply Kd.V_drewN | apply Kd.V_drew)); exact HO223.out) (Kd.R_base ho0) hb); have n1_ := Aside0.mk (Kd.R_lower ho0 (below_size (by repeat (first | (with_reducible first | exact HB.out | apply below_alloc | apply pw_below_drewN | apply below_drew1) | exact HB.out)))); have n2_ := Aside0.mk (below_step (by repeat (first | (with_reducible first | exact HB.out | apply below_alloc | apply pw_below_drewN | apply below_drew1) | exact HB.out)) hb); clear HO223; clear HB; have HO223 := n0_; have HO227 := n1_; have HB := n2_; clear n0_ n1_ n2_; (try clear hb); (try clear hb2); (try clear hk); (try clear hi); (try clear ho0)) | ((with_reducible refine gate_callee (f := 14) rfl ?_); refine goesL_ (some 72) rfl rfl Try.func14 (by kernel_rfl) rfl #[.string x0_7] rfl (by (try simp only [List.map_toArray, List.map_cons, List.map_nil]); first | done | rfl | (simp only [List.length_drop, List.length_take]; rfl)) ?_; (with_reducible refine (wire_Astring.calls kj15 x0_7 t228 _ A55.out).mono ?_); rintro e w110 ⟨rfl, hb⟩; refine ⟨_, rfl, ?_⟩; have n0_ := Aside0.mk (Kd.V_below (by (with_reducible repeat (first | apply Kd.V_alloc | apply Kd.V_drewN | apply Kd.V_drew)); exact HO223.out) hb); have n1_ := Aside0.mk (Kd.R_below (by (with_reducible repeat (first | apply Kd.R_alloc | apply Kd.R_drewN | apply Kd.R_drew)); exact HO227.out) hb); have n2_ := Aside0.mk (below_step (by repeat (first | (with_reducible first | exact HB.out | apply below_alloc | apply pw_below_drewN | apply below_drew1) | exact HB.out)) hb); clear HO223; clear HO227; clear HB; have HO223 := n0_; have HO227 := n1_; have HB := n2_; clear n0_ n1_ n2_; (try clear hb); (try clear hb2); (try clear hk); (try clear hi)) | ((with_reducible refine gate_dst (N := 74) rfl ?_); (try (refine gate_guard (by rfl) ?_; dsimp only)); refine Conv.bytes _ 5 rfl (N := 74) rfl 9 22 _ rfl (t228 ++ (⟨#[32, 120]⟩ : ByteArray)) rfl Try.underlying9 Try.underlying22 Try.underlying5 (of_decide_eq_true (by first | (with_reducible assumption) | assumption)) (ok := (fun k_ => some k_ ≠ (v226 : Value).ownBlock)) ((show ∀ k_, w110.heap.size ≤ k_ → (fun k_ => some k_ ≠ (v226 : Value).ownBlock) k_ from fun k_ hk => Kd.fresh' (Kd.R_lt (by (with_reducible repeat (first | apply Kd.R_alloc | apply Kd.R_drewN | apply Kd.R_drew)); exact HO227.out)) k_ hk) _ (Nat.le_refl _)) (Below.refl _ _) (Nat.le_refl _) ?_; intro v230 w111 ho112 hb hg_ hnew_; clear hg_ hnew_; (first | rw [← Ny229.out] at ho112 | (simp only [Int.reduceToNat] at ho112; rw [← Ny229.out] at ho112)); have n0_ := Aside0.mk (Kd.V_below (by (with_reducible repeat (first | apply Kd.V_alloc | apply Kd.V_drewN | apply Kd.V_drew)); exact HO223.out) hb); have n1_ := Aside0.mk (Kd.R_below (by (with_reducible repeat (first | apply Kd.R_alloc | apply Kd.R_drewN | apply Kd.R_drew)); exact HO227.out) hb); have n2_ := Aside0.mk (Kd.V_lower ho112 (below_size (by repeat (first | (with_reducible first | exact HB.out | apply below_alloc | apply pw_below_drewN | apply below_drew1) | exact HB.out)))); have n3_ := Aside0.mk (below_step (by repeat (first | (with_reducible first | exact HB.out | apply below_alloc | apply pw_below_drewN | apply below_drew1) | exact HB.out)) hb); clear HO223; clear HO227; clear HB; have HO223 := n0_; have HO227 := n1_; have HO231 := n2_; have HB := n3_; clear n0_ n1_ n2_ n3_; clear hb ho112; obtain ⟨Ao113, co113, eo113⟩ := Kd.V_slice HO231.out; subst eo113) | ((with_reducible refine gate_callee (f := 17) rfl ?_); refine goesL_ (some 75) rfl rfl Try.func17 (by kernel_rfl) rfl #[.slice Ao113 y229.length co113] rfl (by (try simp only [List.map_toArray, List.map_cons, List.map_nil]); first | done | rfl | (simp only [List.length_drop, List.length_take]; rfl)) ?_; (with_reducible refine (wire_Tokens.calls kj15 _ _ y229 t232 t233 _ ?side1 ?side2 A58.out).mono ?_); (case side1 => repeat (first | exact (Kd.V_reads' HO231.out).2.2 | (with_reducible refine Kd.C_alloc ?_ _) | (with_reducible refine Kd.C_drewN ?_ _) | (with_reducible refine Kd.C_drew ?_))); (case side2 => exact (Kd.V_reads' HO231.out).2.1); rintro e w114 ⟨v234, rfl, ho0, hb⟩; refine ⟨_, rfl, ?_⟩; have n0_ := Aside0.mk (Kd.V_elder' (by (with_reducible repeat (first | apply Kd.V_alloc | apply Kd.V_drewN | apply Kd.V_drew)); exact HO223.out) (Kd.R_base ho0) hb); have n1_ := Aside0.mk (Kd.R_elder' (by (with_reducible repeat (first | apply Kd.R_alloc | apply Kd.R_drewN | apply Kd.R_drew)); exact HO227.out) (Kd.R_base ho0) hb); have n2_ := Aside0.mk (Kd.V_elder' (by (with_reducible repeat (first | apply Kd.V_alloc | apply Kd.V_drewN | apply Kd.V_drew)); exact HO231.out) (Kd.R_base ho0) hb); have n3_ := Aside0.mk (Kd.R_lower (Kd.R_new' ho0 (Kd.R_lt (by (with_reducible repeat (first | apply Kd.R_alloc | apply Kd.R_drewN | apply Kd.R_drew)); exact HO227.out))) (below_size (by repeat (first | (with_reducible first | exact HB.out | apply below_alloc | apply pw_below_drewN | apply below_drew1) | exact HB.out)))); have n4_ := Aside0.mk (below_step (by repeat (first | (with_reducible first | exact HB.out | apply below_alloc | apply pw_below_drewN | apply below_drew1) | exact HB.out)) hb); clear HO223; clear HO227; clear HO231; clear HB; have HO223 := n0_; have HO227 := n1_; have HO231 := n2_; have HO235 := n3_; have HB := n4_; clear n0_ n1_ n2_ n3_ n4_; (try clear hb); (try clear hb2); (try clear hk); (try clear hi); (try clear ho0); obtain ⟨Ao115, co115, eo115⟩ := Kd.R_slice HO227.out; subst eo115; have p236 : 0 ≤ (0 : Int) := (by omega); have q236 : 0 < (t224.length : Int) := of_decide_eq_true (by first | (with_reducible assumption) | assumption); obtain ⟨ad236, e236, hx236_0, hx236_1⟩ := at_T43 (Kd.R_reads' HO227.out).2.2 0 p236 q236; cases e236; have qi236 : (0 < t224.length) = True := eq_true (by omega); (try rw [show ((0 : Int)).toNat = 0 from rfl] at hx236_0); (try rw [show 0 * 2 = 0 from rfl] at hx236_0); (try rw [Addr.add_zero'] at hx236_0); (try rw [show ((0 : Int)).toNat = 0 from rfl] at hx236_1); (try rw [show 0 * 2 = 0 from rfl] at hx236_1); (try rw [Addr.add_zero'] at hx236_1); replace p236 := eq_true p236; replace q236 := eq_true q236; have p237 : 0 ≤ (0 : Int) := (by omega); have q237 : 0 < (t224.length : Int) := of_decide_eq_true (by first | (with_reducible assumption) | assumption); obtain ⟨ad237, e237, hx237_0, hx237_1⟩ := at_T43 (Kd.R_reads' HO227.out).2.2 0 p237 q237; obtain rfl : ad236 = ad237 := (by injection e237); have qi237 : (0 < t224.length) = True := eq_true (by omega); (try rw [show ((0 : Int)).toNat = 0 from rfl] at hx237_0); (try rw [show 0 * 2 = 0 from rfl] at hx237_0); (try rw [Addr.add_zero'] at hx237_0); (try rw [show ((0 : Int)).toNat = 0 from rfl] at hx237_1); (try rw [show 0 * 2 = 0 from rfl] at hx237_1); (try rw [Addr.add_zero'] at hx237_1); replace p237 := eq_true p237; replace q237 := eq_true q237))
                                  go_ret
                                  exact ⟨by first | rfl | (simp [errW_none, errW_some] <;> rfl) | (simp [*, errW_none, errW_some] <;> rfl), by repeat (first | (with_reducible first | exact HB.out | apply below_alloc | apply pw_below_drewN | apply below_drew1) | exact HB.out)⟩
                              · rw [if_neg c63] at H
                                have c63b0 : (((rd_T43 t224 0).f0) == 2) = false := beq_eq_false_iff_ne.mpr c63
                                have c63b1 : (((rd_T43 t224 0).f0) != 2) = true := bne_iff_ne.mpr c63
                                obtain rfl := Option.some.inj H
                                go_wp2_with (first | ((with_reducible refine gate_callee (f := 12) rfl ?_); refine goesL_ (some 65) rfl rfl Try.func12 (by kernel_rfl) rfl #[.string x0_7] rfl (by (try simp only [List.map_toArray, List.map_cons, List.map_nil]); first | done | rfl | (simp only [List.length_drop, List.length_take]; rfl)) ?_; (with_reducible refine (wire_String.calls kj15 x0_7 t220 _ A52.out).mono ?_); rintro e w116 ⟨rfl, hb⟩; refine ⟨_, rfl, ?_⟩; have n0_ := Aside0.mk (below_step (by repeat (first | (with_reducible first | exact HB.out | apply below_alloc | apply pw_below_drewN | apply below_drew1) | exact HB.out)) hb); clear HB; have HB := n0_; clear n0_; (try clear hb); (try clear hb2); (try clear hk); (try clear hi)) | ((with_reducible refine gate_dst (N := 66) rfl ?_); (try (refine gate_guard (by rfl) ?_; dsimp only)); refine Conv.bytes _ 5 rfl (N := 66) rfl 9 22 _ rfl t220 rfl Try.underlying9 Try.underlying22 Try.underlying5 (of_decide_eq_true (by first | (with_reducible assumption) | assumption)) (ok := (fun _ => True)) ((show ∀ k_, w116.heap.size ≤ k_ → (fun _ => True) k_ from fun k_ hk => trivial) _ (Nat.le_refl _)) (Below.refl _ _) (Nat.le_refl _) ?_; intro v222 w117 ho118 hb hg_ hnew_; clear hg_ hnew_; (first | rw [← Ny221.out] at ho118 | (simp only [Int.reduceToNat] at ho118; rw [← Ny221.out] at ho118)); have n0_ := Aside0.mk (Kd.V_lower ho118 (below_size (by repeat (first | (with_reducible first | exact HB.out | apply below_alloc | apply pw_below_drewN | apply below_drew1) | exact HB.out)))); have n1_ := Aside0.mk (below_step (by repeat (first | (with_reducible first | exact HB.out | apply below_alloc | apply pw_below_drewN | apply below_drew1) | exact HB.out)) hb); clear HB; have HO223 := n0_; have HB := n1_; clear n0_ n1_; clear hb ho118; obtain ⟨Ao119, co119, eo119⟩ := Kd.V_slice HO223.out; subst eo119) | ((with_reducible refine gate_callee (f := 17) rfl ?_); refine goesL_ (some 67) rfl rfl Try.func17 (by kernel_rfl) rfl #[.slice Ao119 y221.length co119] rfl (by (try simp only [List.map_toArray, List.map_cons, List.map_nil]); first | done | rfl | (simp only [List.length_drop, List.length_take]; rfl)) ?_; (with_reducible refine (wire_Tokens.calls kj15 _ _ y221 t224 t225 _ ?side1 ?side2 A54.out).mono ?_); (case side1 => repeat (first | exact (Kd.V_reads' HO223.out).2.2 | (with_reducible refine Kd.C_alloc ?_ _) | (with_reducible refine Kd.C_drewN ?_ _) | (with_reducible refine Kd.C_drew ?_))); (case side2 => exact (Kd.V_reads' HO223.out).2.1); rintro e w120 ⟨v226, rfl, ho0, hb⟩; refine ⟨_, rfl, ?_⟩; have n0_ := Aside0.mk (Kd.V_elder' (by (with_reducible repeat (first | apply Kd.V_alloc | apply Kd.V_drewN | apply Kd.V_drew)); exact HO223.out) (Kd.R_base ho0) hb); have n1_ := Aside0.mk (Kd.R_lower ho0 (below_size (by repeat (first | (with_reducible first | exact HB.out | apply below_alloc | apply pw_below_drewN | apply below_drew1) | exact HB.out)))); have n2_ := Aside0.mk (below_step (by repeat (first | (with_reducible first | exact HB.out | apply below_alloc | apply pw_below_drewN | apply below_drew1) | exact HB.out)) hb); clear HO223; clear HB; have HO223 := n0_; have HO227 := n1_; have HB := n2_; clear n0_ n1_ n2_; (try clear hb); (try clear hb2); (try clear hk); (try clear hi); (try clear ho0)) | ((with_reducible refine gate_callee (f := 14) rfl ?_); refine goesL_ (some 72) rfl rfl Try.func14 (by kernel_rfl) rfl #[.string x0_7] rfl (by (try simp only [List.map_toArray, List.map_cons, List.map_nil]); first | done | rfl | (simp only [List.length_drop, List.length_take]; rfl)) ?_; (with_reducible refine (wire_Astring.calls kj15 x0_7 t228 _ A55.out).mono ?_); rintro e w121 ⟨rfl, hb⟩; refine ⟨_, rfl, ?_⟩; have n0_ := Aside0.mk (Kd.V_below (by (with_reducible repeat (first | apply Kd.V_alloc | apply Kd.V_drewN | apply Kd.V_drew)); exact HO223.out) hb); have n1_ := Aside0.mk (Kd.R_below (by (with_reducible repeat (first | apply Kd.R_alloc | apply Kd.R_drewN | apply Kd.R_drew)); exact HO227.out) hb); have n2_ := Aside0.mk (below_step (by repeat (first | (with_reducible first | exact HB.out | apply below_alloc | apply pw_below_drewN | apply below_drew1) | exact HB.out)) hb); clear HO223; clear HO227; clear HB; have HO223 := n0_; have HO227 := n1_; have HB := n2_; clear n0_ n1_ n2_; (try clear hb); (try clear hb2); (try clear hk); (try clear hi)) | ((with_reducible refine gate_dst (N := 74) rfl ?_); (try (refine gate_guard (by rfl) ?_; dsimp only)); refine Conv.bytes _ 5 rfl (N := 74) rfl 9 22 _ rfl (t228 ++ (⟨#[32, 120]⟩ : ByteArray)) rfl Try.underlying9 Try.underlying22 Try.underlying5 (of_decide_eq_true (by first | (with_reducible assumption) | assumption)) (ok := (fun k_ => some k_ ≠ (v226 : Value).ownBlock)) ((show ∀ k_, w121.heap.size ≤ k_ → (fun k_ => some k_ ≠ (v226 : Value).ownBlock) k_ from fun k_ hk => Kd.fresh' (Kd.R_lt (by (with_reducible repeat (first | apply Kd.R_alloc | apply Kd.R_drewN | apply Kd.R_drew)); exact HO227.out)) k_ hk) _ (Nat.le_refl _)) (Below.refl _ _) (Nat.le_refl _) ?_; intro v230 w122 ho123 hb hg_ hnew_; clear hg_ hnew_; (first | rw [← Ny229.out] at ho123 | (simp only [Int.reduceToNat] at ho123; rw [← Ny229.out] at ho123)); have n0_ := Aside0.mk (Kd.V_below (by (with_reducible repeat (first | apply Kd.V_alloc | apply Kd.V_drewN | apply Kd.V_drew)); exact HO223.out) hb); have n1_ := Aside0.mk (Kd.R_below (by (with_reducible repeat (first | apply Kd.R_alloc | apply Kd.R_drewN | apply Kd.R_drew)); exact HO227.out) hb); have n2_ := Aside0.mk (Kd.V_lower ho123 (below_size (by repeat (first | (with_reducible first | exact HB.out | apply below_alloc | apply pw_below_drewN | apply below_drew1) | exact HB.out)))); have n3_ := Aside0.mk (below_step (by repeat (first | (with_reducible first | exact HB.out | apply below_alloc | apply pw_below_drewN | apply below_drew1) | exact HB.out)) hb); clear HO223; clear HO227; clear HB; have HO223 := n0_; have HO227 := n1_; have HO231 := n2_; have HB := n3_; clear n0_ n1_ n2_ n3_; clear hb ho123; obtain ⟨Ao124, co124, eo124⟩ := Kd.V_slice HO231.out; subst eo124) | ((with_reducible refine gate_callee (f := 17) rfl ?_); refine goesL_ (some 75) rfl rfl Try.func17 (by kernel_rfl) rfl #[.slice Ao124 y229.length co124] rfl (by (try simp only [List.map_toArray, List.map_cons, List.map_nil]); first | done | rfl | (simp only [List.length_drop, List.length_take]; rfl)) ?_; (with_reducible refine (wire_Tokens.calls kj15 _ _ y229 t232 t233 _ ?side1 ?side2 A58.out).mono ?_); (case side1 => repeat (first | exact (Kd.V_reads' HO231.out).2.2 | (with_reducible refine Kd.C_alloc ?_ _) | (with_reducible refine Kd.C_drewN ?_ _) | (with_reducible refine Kd.C_drew ?_))); (case side2 => exact (Kd.V_reads' HO231.out).2.1); rintro e w125 ⟨v234, rfl, ho0, hb⟩; refine ⟨_, rfl, ?_⟩; have n0_ := Aside0.mk (Kd.V_elder' (by (with_reducible repeat (first | apply Kd.V_alloc | apply Kd.V_drewN | apply Kd.V_drew)); exact HO223.out) (Kd.R_base ho0) hb); have n1_ := Aside0.mk (Kd.R_elder' (by (with_reducible repeat (first | apply Kd.R_alloc | apply Kd.R_drewN | apply Kd.R_drew)); exact HO227.out) (Kd.R_base ho0) hb); have n2_ := Aside0.mk (Kd.V_elder' (by (with_reducible repeat (first | apply Kd.V_alloc | apply Kd.V_drewN | apply Kd.V_drew)); exact HO231.out) (Kd.R_base ho0) hb); have n3_ := Aside0.mk (Kd.R_lower (Kd.R_new' ho0 (Kd.R_lt (by (with_reducible repeat (first | apply Kd.R_alloc | apply Kd.R_drewN | apply Kd.R_drew)); exact HO227.out))) (below_size (by repeat (first | (with_reducible first | exact HB.out | apply below_alloc | apply pw_below_drewN | apply below_drew1) | exact HB.out)))); have n4_ := Aside0.mk (below_step (by repeat (first | (with_reducible first | exact HB.out | apply below_alloc | apply pw_below_drewN | apply below_drew1) | exact HB.out)) hb); clear HO223; clear HO227; clear HO231; clear HB; have HO223 := n0_; have HO227 := n1_; have HO231 := n2_; have HO235 := n3_; have HB := n4_; clear n0_ n1_ n2_ n3_ n4_; (try clear hb); (try clear hb2); (try clear hk); (try clear hi); (try clear ho0); obtain ⟨Ao126, co126, eo126⟩ := Kd.R_slice HO227.out; subst eo126; have p236 : 0 ≤ (0 : Int) := (by omega); have q236 : 0 < (t224.length : Int) := of_decide_eq_true (by first | (with_reducible assumption) | assumption); obtain ⟨ad236, e236, hx236_0, hx236_1⟩ := at_T43 (Kd.R_reads' HO227.out).2.2 0 p236 q236; cases e236; have qi236 : (0 < t224.length) = True := eq_true (by omega); (try rw [show ((0 : Int)).toNat = 0 from rfl] at hx236_0); (try rw [show 0 * 2 = 0 from rfl] at hx236_0); (try rw [Addr.add_zero'] at hx236_0); (try rw [show ((0 : Int)).toNat = 0 from rfl] at hx236_1); (try rw [show 0 * 2 = 0 from rfl] at hx236_1); (try rw [Addr.add_zero'] at hx236_1); replace p236 := eq_true p236; replace q236 := eq_true q236))
                                go_ret
                                exact ⟨by first | rfl | (simp [errW_none, errW_some] <;> rfl) | (simp [*, errW_none, errW_some] <;> rfl), by repeat (first | (with_reducible first | exact HB.out | apply below_alloc | apply pw_below_drewN | apply below_drew1) | exact HB.out)⟩
                            · rw [if_neg c62] at H
                              exact absurd H (by simp)
                          · rw [if_neg c61] at H
                            have c61b0 : ((t224.length : Int) == 1) = false := beq_eq_false_iff_ne.mpr c61
                            have c61b1 : ((t224.length : Int) != 1) = true := bne_iff_ne.mpr c61
                            obtain rfl := Option.some.inj H
                            go_wp2_with (first | ((with_reducible refine gate_callee (f := 12) rfl ?_); refine goesL_ (some 65) rfl rfl Try.func12 (by kernel_rfl) rfl #[.string x0_7] rfl (by (try simp only [List.map_toArray, List.map_cons, List.map_nil]); first | done | rfl | (simp only [List.length_drop, List.length_take]; rfl)) ?_; (with_reducible refine (wire_String.calls kj15 x0_7 t220 _ A52.out).mono ?_); rintro e w127 ⟨rfl, hb⟩; refine ⟨_, rfl, ?_⟩; have n0_ := Aside0.mk (below_step (by repeat (first | (with_reducible first | exact HB.out | apply below_alloc | apply pw_below_drewN | apply below_drew1) | exact HB.out)) hb); clear HB; have HB := n0_; clear n0_; (try clear hb); (try clear hb2); (try clear hk); (try clear hi)) | ((with_reducible refine gate_dst (N := 66) rfl ?_); (try (refine gate_guard (by rfl) ?_; dsimp only)); refine Conv.bytes _ 5 rfl (N := 66) rfl 9 22 _ rfl t220 rfl Try.underlying9 Try.underlying22 Try.underlying5 (of_decide_eq_true (by first | (with_reducible assumption) | assumption)) (ok := (fun _ => True)) ((show ∀ k_, w127.heap.size ≤ k_ → (fun _ => True) k_ from fun k_ hk => trivial) _ (Nat.le_refl _)) (Below.refl _ _) (Nat.le_refl _) ?_; intro v222 w128 ho129 hb hg_ hnew_; clear hg_ hnew_; (first | rw [← Ny221.out] at ho129 | (simp only [Int.reduceToNat] at ho129; rw [← Ny221.out] at ho129)); have n0_ := Aside0.mk (Kd.V_lower ho129 (below_size (by repeat (first | (with_reducible first | exact HB.out | apply below_alloc | apply pw_below_drewN | apply below_drew1) | exact HB.out)))); have n1_ := Aside0.mk (below_step (by repeat (first | (with_reducible first | exact HB.out | apply below_alloc | apply pw_below_drewN | apply below_drew1) | exact HB.out)) hb); clear HB; have HO223 := n0_; have HB := n1_; clear n0_ n1_; clear hb ho129; obtain ⟨Ao130, co130, eo130⟩ := Kd.V_slice HO223.out; subst eo130) | ((with_reducible refine gate_callee (f := 17) rfl ?_); refine goesL_ (some 67) rfl rfl Try.func17 (by kernel_rfl) rfl #[.slice Ao130 y221.length co130] rfl (by (try simp only [List.map_toArray, List.map_cons, List.map_nil]); first | done | rfl | (simp only [List.length_drop, List.length_take]; rfl)) ?_; (with_reducible refine (wire_Tokens.calls kj15 _ _ y221 t224 t225 _ ?side1 ?side2 A54.out).mono ?_); (case side1 => repeat (first | exact (Kd.V_reads' HO223.out).2.2 | (with_reducible refine Kd.C_alloc ?_ _) | (with_reducible refine Kd.C_drewN ?_ _) | (with_reducible refine Kd.C_drew ?_))); (case side2 => exact (Kd.V_reads' HO223.out).2.1); rintro e w131 ⟨v226, rfl, ho0, hb⟩; refine ⟨_, rfl, ?_⟩; have n0_ := Aside0.mk (Kd.V_elder' (by (with_reducible repeat (first | apply Kd.V_alloc | apply Kd.V_drewN | apply Kd.V_drew)); exact HO223.out) (Kd.R_base ho0) hb); have n1_ := Aside0.mk (Kd.R_lower ho0 (below_size (by repeat (first | (with_reducible first | exact HB.out | apply below_alloc | apply pw_below_drewN | apply below_drew1) | exact HB.out)))); have n2_ := Aside0.mk (below_step (by repeat (first | (with_reducible first | exact HB.out | apply below_alloc | apply pw_below_drewN | apply below_drew1) | exact HB.out)) hb); clear HO223; clear HB; have HO223 := n0_; have HO227 := n1_; have HB := n2_; clear n0_ n1_ n2_; (try clear hb); (try clear hb2); (try clear hk); (try clear hi); (try clear ho0)) | ((with_reducible refine gate_callee (f := 14) rfl ?_); refine goesL_ (some 72) rfl rfl Try.func14 (by kernel_rfl) rfl #[.string x0_7] rfl (by (try simp only [List.map_toArray, List.map_cons, List.map_nil]); first | done | rfl | (simp only [List.length_drop, List.length_take]; rfl)) ?_; (with_reducible refine (wire_Astring.calls kj15 x0_7 t228 _ A55.out).mono ?_); rintro e w132 ⟨rfl, hb⟩; refine ⟨_, rfl, ?_⟩; have n0_ := Aside0.mk (Kd.V_below (by (with_reducible repeat (first | apply Kd.V_alloc | apply Kd.V_drewN | apply Kd.V_drew)); exact HO223.out) hb); have n1_ := Aside0.mk (Kd.R_below (by (with_reducible repeat (first | apply Kd.R_alloc | apply Kd.R_drewN | apply Kd.R_drew)); exact HO227.out) hb); have n2_ := Aside0.mk (below_step (by repeat (first | (with_reducible first | exact HB.out | apply below_alloc | apply pw_below_drewN | apply below_drew1) | exact HB.out)) hb); clear HO223; clear HO227; clear HB; have HO223 := n0_; have HO227 := n1_; have HB := n2_; clear n0_ n1_ n2_; (try clear hb); (try clear hb2); (try clear hk); (try clear hi)) | ((with_reducible refine gate_dst (N := 74) rfl ?_); (try (refine gate_guard (by rfl) ?_; dsimp only)); refine Conv.bytes _ 5 rfl (N := 74) rfl 9 22 _ rfl (t228 ++ (⟨#[32, 120]⟩ : ByteArray)) rfl Try.underlying9 Try.underlying22 Try.underlying5 (of_decide_eq_true (by first | (with_reducible assumption) | assumption)) (ok := (fun k_ => some k_ ≠ (v226 : Value).ownBlock)) ((show ∀ k_, w132.heap.size ≤ k_ → (fun k_ => some k_ ≠ (v226 : Value).ownBlock) k_ from fun k_ hk => Kd.fresh' (Kd.R_lt (by (with_reducible repeat (first | apply Kd.R_alloc | apply Kd.R_drewN | apply Kd.R_drew)); exact HO227.out)) k_ hk) _ (Nat.le_refl _)) (Below.refl _ _) (Nat.le_refl _) ?_; intro v230 w133 ho134 hb hg_ hnew_; clear hg_ hnew_; (first | rw [← Ny229.out] at ho134 | (simp only [Int.reduceToNat] at ho134; rw [← Ny229.out] at ho134)); have n0_ := Aside0.mk (Kd.V_below (by (with_reducible repeat (first | apply Kd.V_alloc | apply Kd.V_drewN | apply Kd.V_drew)); exact HO223.out) hb); have n1_ := Aside0.mk (Kd.R_below (by (with_reducible repeat (first | apply Kd.R_alloc | apply Kd.R_drewN | apply Kd.R_drew)); exact HO227.out) hb); have n2_ := Aside0.mk (Kd.V_lower ho134 (below_size (by repeat (first | (with_reducible first | exact HB.out | apply below_alloc | apply pw_below_drewN | apply below_drew1) | exact HB.out)))); have n3_ := Aside0.mk (below_step (by repeat (first | (with_reducible first | exact HB.out | apply below_alloc | apply pw_below_drewN | apply below_drew1) | exact HB.out)) hb); clear HO223; clear HO227; clear HB; have HO223 := n0_; have HO227 := n1_; have HO231 := n2_; have HB := n3_; clear n0_ n1_ n2_ n3_; clear hb ho134; obtain ⟨Ao135, co135, eo135⟩ := Kd.V_slice HO231.out; subst eo135) | ((with_reducible refine gate_callee (f := 17) rfl ?_); refine goesL_ (some 75) rfl rfl Try.func17 (by kernel_rfl) rfl #[.slice Ao135 y229.length co135] rfl (by (try simp only [List.map_toArray, List.map_cons, List.map_nil]); first | done | rfl | (simp only [List.length_drop, List.length_take]; rfl)) ?_; (with_reducible refine (wire_Tokens.calls kj15 _ _ y229 t232 t233 _ ?side1 ?side2 A58.out).mono ?_); (case side1 => repeat (first | exact (Kd.V_reads' HO231.out).2.2 | (with_reducible refine Kd.C_alloc ?_ _) | (with_reducible refine Kd.C_drewN ?_ _) | (with_reducible refine Kd.C_drew ?_))); (case side2 => exact (Kd.V_reads' HO231.out).2.1); rintro e w136 ⟨v234, rfl, ho0, hb⟩; refine ⟨_, rfl, ?_⟩; have n0_ := Aside0.mk (Kd.V_elder' (by (with_reducible repeat (first | apply Kd.V_alloc | apply Kd.V_drewN | apply Kd.V_drew)); exact HO223.out) (Kd.R_base ho0) hb); have n1_ := Aside0.mk (Kd.R_elder' (by (with_reducible repeat (first | apply Kd.R_alloc | apply Kd.R_drewN | apply Kd.R_drew)); exact HO227.out) (Kd.R_base ho0) hb); have n2_ := Aside0.mk (Kd.V_elder' (by (with_reducible repeat (first | apply Kd.V_alloc | apply Kd.V_drewN | apply Kd.V_drew)); exact HO231.out) (Kd.R_base ho0) hb); have n3_ := Aside0.mk (Kd.R_lower (Kd.R_new' ho0 (Kd.R_lt (by (with_reducible repeat (first | apply Kd.R_alloc | apply Kd.R_drewN | apply Kd.R_drew)); exact HO227.out))) (below_size (by repeat (first | (with_reducible first | exact HB.out | apply below_alloc | apply pw_below_drewN | apply below_drew1) | exact HB.out)))); have n4_ := Aside0.mk (below_step (by repeat (first | (with_reducible first | exact HB.out | apply below_alloc | apply pw_below_drewN | apply below_drew1) | exact HB.out)) hb); clear HO223; clear HO227; clear HO231; clear HB; have HO223 := n0_; have HO227 := n1_; have HO231 := n2_; have HO235 := n3_; have HB := n4_; clear n0_ n1_ n2_ n3_ n4_; (try clear hb); (try clear hb2); (try clear hk); (try clear hi); (try clear ho0); obtain ⟨Ao137, co137, eo137⟩ := Kd.R_slice HO227.out; subst eo137))
                            go_ret
                            exact ⟨by first | rfl | (simp [errW_none, errW_some] <;> rfl) | (simp [*, errW_none, errW_some] <;> rfl), by repeat (first | (with_reducible first | exact HB.out | apply below_alloc | apply pw_below_drewN | apply below_drew1) | exact HB.out)⟩
                        · rw [if_neg c60] at H
                          have c60b0 : (t233 == 0) = false := beq_eq_false_iff_ne.mpr c60
                          have c60b1 : (t233 != 0) = true := bne_iff_ne.mpr c60
                          obtain rfl := Option.some.inj H
                          go_wp2_with (first | ((with_reducible refine gate_callee (f := 12) rfl ?_); refine goesL_ (some 65) rfl rfl Try.func12 (by kernel_rfl) rfl #[.string x0_7] rfl (by (try simp only [List.map_toArray, List.map_cons, List.map_nil]); first | done | rfl | (simp only [List.length_drop, List.length_take]; rfl)) ?_; (with_reducible refine (wire_String.calls kj15 x0_7 t220 _ A52.out).mono ?_); rintro e w138 ⟨rfl, hb⟩; refine ⟨_, rfl, ?_⟩; have n0_ := Aside0.mk (below_step (by repeat (first | (with_reducible first | exact HB.out | apply below_alloc | apply pw_below_drewN | apply below_drew1) | exact HB.out)) hb); clear HB; have HB := n0_; clear n0_; (try clear hb); (try clear hb2); (try clear hk); (try clear hi)) | ((with_reducible refine gate_dst (N := 66) rfl ?_); (try (refine gate_guard (by rfl) ?_; dsimp only)); refine Conv.bytes _ 5 rfl (N := 66) rfl 9 22 _ rfl t220 rfl Try.underlying9 Try.underlying22 Try.underlying5 (of_decide_eq_true (by first | (with_reducible assumption) | assumption)) (ok := (fun _ => True)) ((show ∀ k_, w138.heap.size ≤ k_ → (fun _ => True) k_ from fun k_ hk => trivial) _ (Nat.le_refl _)) (Below.refl _ _) (Nat.le_refl _) ?_; intro v222 w139 ho140 hb hg_ hnew_; clear hg_ hnew_; (first | rw [← Ny221.out] at ho140 | (simp only [Int.reduceToNat] at ho140; rw [← Ny221.out] at ho140)); have n0_ := Aside0.mk (Kd.V_lower ho140 (below_size (by repeat (first | (with_reducible first | exact HB.out | apply below_alloc | apply pw_below_drewN | apply below_drew1) | exact HB.out)))); have n1_ := Aside0.mk (below_step (by repeat (first | (with_reducible first | exact HB.out | apply below_alloc | apply pw_below_drewN | apply below_drew1) | exact HB.out)) hb); clear HB; have HO223 := n0_; have HB := n1_; clear n0_ n1_; clear hb ho140; obtain ⟨Ao141, co141, eo141⟩ := Kd.V_slice HO223.out; subst eo141) | ((with_reducible refine gate_callee (f := 17) rfl ?_); refine goesL_ (some 67) rfl rfl Try.func17 (by kernel_rfl) rfl #[.slice Ao141 y221.length co141] rfl (by (try simp only [List.map_toArray, List.map_cons, List.map_nil]); first | done | rfl | (simp only [List.length_drop, List.length_take]; rfl)) ?_; (with_reducible refine (wire_Tokens.calls kj15 _ _ y221 t224 t225 _ ?side1 ?side2 A54.out).mono ?_); (case side1 => repeat (first | exact (Kd.V_reads' HO223.out).2.2 | (with_reducible refine Kd.C_alloc ?_ _) | (with_reducible refine Kd.C_drewN ?_ _) | (with_reducible refine Kd.C_drew ?_))); (case side2 => exact (Kd.V_reads' HO223.out).2.1); rintro e w142 ⟨v226, rfl, ho0, hb⟩; refine ⟨_, rfl, ?_⟩; have n0_ := Aside0.mk (Kd.V_elder' (by (with_reducible repeat (first | apply Kd.V_alloc | apply Kd.V_drewN | apply Kd.V_drew)); exact HO223.out) (Kd.R_base ho0) hb); have n1_ := Aside0.mk (Kd.R_lower ho0 (below_size (by repeat (first | (with_reducible first | exact HB.out | apply below_alloc | apply pw_below_drewN | apply below_drew1) | exact HB.out)))); have n2_ := Aside0.mk (below_step (by repeat (first | (with_reducible first | exact HB.out | apply below_alloc | apply pw_below_drewN | apply below_drew1) | exact HB.out)) hb); clear HO223; clear HB; have HO223 := n0_; have HO227 := n1_; have HB := n2_; clear n0_ n1_ n2_; (try clear hb); (try clear hb2); (try clear hk); (try clear hi); (try clear ho0)) | ((with_reducible refine gate_callee (f := 14) rfl ?_); refine goesL_ (some 72) rfl rfl Try.func14 (by kernel_rfl) rfl #[.string x0_7] rfl (by (try simp only [List.map_toArray, List.map_cons, List.map_nil]); first | done | rfl | (simp only [List.length_drop, List.length_take]; rfl)) ?_; (with_reducible refine (wire_Astring.calls kj15 x0_7 t228 _ A55.out).mono ?_); rintro e w143 ⟨rfl, hb⟩; refine ⟨_, rfl, ?_⟩; have n0_ := Aside0.mk (Kd.V_below (by (with_reducible repeat (first | apply Kd.V_alloc | apply Kd.V_drewN | apply Kd.V_drew)); exact HO223.out) hb); have n1_ := Aside0.mk (Kd.R_below (by (with_reducible repeat (first | apply Kd.R_alloc | apply Kd.R_drewN | apply Kd.R_drew)); exact HO227.out) hb); have n2_ := Aside0.mk (below_step (by repeat (first | (with_reducible first | exact HB.out | apply below_alloc | apply pw_below_drewN | apply below_drew1) | exact HB.out)) hb); clear HO223; clear HO227; clear HB; have HO223 := n0_; have HO227 := n1_; have HB := n2_; clear n0_ n1_ n2_; (try clear hb); (try clear hb2); (try clear hk); (try clear hi)) | ((with_reducible refine gate_dst (N := 74) rfl ?_); (try (refine gate_guard (by rfl) ?_; dsimp only)); refine Conv.bytes _ 5 rfl (N := 74) rfl 9 22 _ rfl (t228 ++ (⟨#[32, 120]⟩ : ByteArray)) rfl Try.underlying9 Try.underlying22 Try.underlying5 (of_decide_eq_true (by first | (with_reducible assumption) | assumption)) (ok := (fun k_ => some k_ ≠ (v226 : Value).ownBlock)) ((show ∀ k_, w143.heap.size ≤ k_ → (fun k_ => some k_ ≠ (v226 : Value).ownBlock) k_ from fun k_ hk => Kd.fresh' (Kd.R_lt (by (with_reducible repeat (first | apply Kd.R_alloc | apply Kd.R_drewN | apply Kd.R_drew)); exact HO227.out)) k_ hk) _ (Nat.le_refl _)) (Below.refl _ _) (Nat.le_refl _) ?_; intro v230 w144 ho145 hb hg_ hnew_; clear hg_ hnew_; (first | rw [← Ny229.out] at ho145 | (simp only [Int.reduceToNat] at ho145; rw [← Ny229.out] at ho145)); have n0_ := Aside0.mk (Kd.V_below (by (with_reducible repeat (first | apply Kd.V_alloc | apply Kd.V_drewN | apply Kd.V_drew)); exact HO223.out) hb); have n1_ := Aside0.mk (Kd.R_below (by (with_reducible repeat (first | apply Kd.R_alloc | apply Kd.R_drewN | apply Kd.R_drew)); exact HO227.out) hb); have n2_ := Aside0.mk (Kd.V_lower ho145 (below_size (by repeat (first | (with_reducible first | exact HB.out | apply below_alloc | apply pw_below_drewN | apply below_drew1) | exact HB.out)))); have n3_ := Aside0.mk (below_step (by repeat (first | (with_reducible first | exact HB.out | apply below_alloc | apply pw_below_drewN | apply below_drew1) | exact HB.out)) hb); clear HO223; clear HO227; clear HB; have HO223 := n0_; have HO227 := n1_; have HO231 := n2_; have HB := n3_; clear n0_ n1_ n2_ n3_; clear hb ho145; obtain ⟨Ao146, co146, eo146⟩ := Kd.V_slice HO231.out; subst eo146) | ((with_reducible refine gate_callee (f := 17) rfl ?_); refine goesL_ (some 75) rfl rfl Try.func17 (by kernel_rfl) rfl #[.slice Ao146 y229.length co146] rfl (by (try simp only [List.map_toArray, List.map_cons, List.map_nil]); first | done | rfl | (simp only [List.length_drop, List.length_take]; rfl)) ?_; (with_reducible refine (wire_Tokens.calls kj15 _ _ y229 t232 t233 _ ?side1 ?side2 A58.out).mono ?_); (case side1 => repeat (first | exact (Kd.V_reads' HO231.out).2.2 | (with_reducible refine Kd.C_alloc ?_ _) | (with_reducible refine Kd.C_drewN ?_ _) | (with_reducible refine Kd.C_drew ?_))); (case side2 => exact (Kd.V_reads' HO231.out).2.1); rintro e w147 ⟨v234, rfl, ho0, hb⟩; refine ⟨_, rfl, ?_⟩; have n0_ := Aside0.mk (Kd.V_elder' (by (with_reducible repeat (first | apply Kd.V_alloc | apply Kd.V_drewN | apply Kd.V_drew)); exact HO223.out) (Kd.R_base ho0) hb); have n1_ := Aside0.mk (Kd.R_elder' (by (with_reducible repeat (first | apply Kd.R_alloc | apply Kd.R_drewN | apply Kd.R_drew)); exact HO227.out) (Kd.R_base ho0) hb); have n2_ := Aside0.mk (Kd.V_elder' (by (with_reducible repeat (first | apply Kd.V_alloc | apply Kd.V_drewN | apply Kd.V_drew)); exact HO231.out) (Kd.R_base ho0) hb); have n3_ := Aside0.mk (Kd.R_lower (Kd.R_new' ho0 (Kd.R_lt (by (with_reducible repeat (first | apply Kd.R_alloc | apply Kd.R_drewN | apply Kd.R_drew)); exact HO227.out))) (below_size (by repeat (first | (with_reducible first | exact HB.out | apply below_alloc | apply pw_below_drewN | apply below_drew1) | exact HB.out)))); have n4_ := Aside0.mk (below_step (by repeat (first | (with_reducible first | exact HB.out | apply below_alloc | apply pw_below_drewN | apply below_drew1) | exact HB.out)) hb); clear HO223; clear HO227; clear HO231; clear HB; have HO223 := n0_; have HO227 := n1_; have HO231 := n2_; have HO235 := n3_; have HB := n4_; clear n0_ n1_ n2_ n3_ n4_; (try clear hb); (try clear hb2); (try clear hk); (try clear hi); (try clear ho0)))
                          go_ret
                          exact ⟨by first | rfl | (simp [errW_none, errW_some] <;> rfl) | (simp [*, errW_none, errW_some] <;> rfl), by repeat (first | (with_reducible first | exact HB.out | apply below_alloc | apply pw_below_drewN | apply below_drew1) | exact HB.out)⟩
                      · rw [if_neg c59] at H
                        have c59b0 : (t225 == 0) = false := beq_eq_false_iff_ne.mpr c59
                        have c59b1 : (t225 != 0) = true := bne_iff_ne.mpr c59
                        obtain rfl := Option.some.inj H
                        go_wp2_with (first | ((with_reducible refine gate_callee (f := 12) rfl ?_); refine goesL_ (some 65) rfl rfl Try.func12 (by kernel_rfl) rfl #[.string x0_7] rfl (by (try simp only [List.map_toArray, List.map_cons, List.map_nil]); first | done | rfl | (simp only [List.length_drop, List.length_take]; rfl)) ?_; (with_reducible refine (wire_String.calls kj15 x0_7 t220 _ A52.out).mono ?_); rintro e w148 ⟨rfl, hb⟩; refine ⟨_, rfl, ?_⟩; have n0_ := Aside0.mk (below_step (by repeat (first | (with_reducible first | exact HB.out | apply below_alloc | apply pw_below_drewN | apply below_drew1) | exact HB.out)) hb); clear HB; have HB := n0_; clear n0_; (try clear hb); (try clear hb2); (try clear hk); (try clear hi)) | ((with_reducible refine gate_dst (N := 66) rfl ?_); (try (refine gate_guard (by rfl) ?_; dsimp only)); refine Conv.bytes _ 5 rfl (N := 66) rfl 9 22 _ rfl t220 rfl Try.underlying9 Try.underlying22 Try.underlying5 (of_decide_eq_true (by first | (with_reducible assumption) | assumption)) (ok := (fun _ => True)) ((show ∀ k_, w148.heap.size ≤ k_ → (fun _ => True) k_ from fun k_ hk => trivial) _ (Nat.le_refl _)) (Below.refl _ _) (Nat.le_refl _) ?_; intro v222 w149 ho150 hb hg_ hnew_; clear hg_ hnew_; (first | rw [← Ny221.out] at ho150 | (simp only [Int.reduceToNat] at ho150; rw [← Ny221.out] at ho150)); have n0_ := Aside0.mk (Kd.V_lower ho150 (below_size (by repeat (first | (with_reducible first | exact HB.out | apply below_alloc | apply pw_below_drewN | apply below_drew1) | exact HB.out)))); have n1_ := Aside0.mk (below_step (by repeat (first | (with_reducible first | exact HB.out | apply below_alloc | apply pw_below_drewN | apply below_drew1) | exact HB.out)) hb); clear HB; have HO223 := n0_; have HB := n1_; clear n0_ n1_; clear hb ho150; obtain ⟨Ao151, co151, eo151⟩ := Kd.V_slice HO223.out; subst eo151) | ((with_reducible refine gate_callee (f := 17) rfl ?_); refine goesL_ (some 67) rfl rfl Try.func17 (by kernel_rfl) rfl #[.slice Ao151 y221.length co151] rfl (by (try simp only [List.map_toArray, List.map_cons, List.map_nil]); first | done | rfl | (simp only [List.length_drop, List.length_take]; rfl)) ?_; (with_reducible refine (wire_Tokens.calls kj15 _ _ y221 t224 t225 _ ?side1 ?side2 A54.out).mono ?_); (case side1 => repeat (first | exact (Kd.V_reads' HO223.out).2.2 | (with_reducible refine Kd.C_alloc ?_ _) | (with_reducible refine Kd.C_drewN ?_ _) | (with_reducible refine Kd.C_drew ?_))); (case side2 => exact (Kd.V_reads' HO223.out).2.1); rintro e w152 ⟨v226, rfl, ho0, hb⟩; refine ⟨_, rfl, ?_⟩; have n0_ := Aside0.mk (Kd.V_elder' (by (with_reducible repeat (first | apply Kd.V_alloc | apply Kd.V_drewN | apply Kd.V_drew)); exact HO223.out) (Kd.R_base ho0) hb); have n1_ := Aside0.mk (Kd.R_lower ho0 (below_size (by repeat (first | (with_reducible first | exact HB.out | apply below_alloc | apply pw_below_drewN | apply below_drew1) | exact HB.out)))); have n2_ := Aside0.mk (below_step (by repeat (first | (with_reducible first | exact HB.out | apply below_alloc | apply pw_below_drewN | apply below_drew1) | exact HB.out)) hb); clear HO223; clear HB; have HO223 := n0_; have HO227 := n1_; have HB := n2_; clear n0_ n1_ n2_; (try clear hb); (try clear hb2); (try clear hk); (try clear hi); (try clear ho0)) | ((with_reducible refine gate_callee (f := 14) rfl ?_); refine goesL_ (some 72) rfl rfl Try.func14 (by kernel_rfl) rfl #[.string x0_7] rfl (by (try simp only [List.map_toArray, List.map_cons, List.map_nil]); first | done | rfl | (simp only [List.length_drop, List.length_take]; rfl)) ?_; (with_reducible refine (wire_Astring.calls kj15 x0_7 t228 _ A55.out).mono ?_); rintro e w153 ⟨rfl, hb⟩; refine ⟨_, rfl, ?_⟩; have n0_ := Aside0.mk (Kd.V_below (by (with_reducible repeat (first | apply Kd.V_alloc | apply Kd.V_drewN | apply Kd.V_drew)); exact HO223.out) hb); have n1_ := Aside0.mk (Kd.R_below (by (with_reducible repeat (first | apply Kd.R_alloc | apply Kd.R_drewN | apply Kd.R_drew)); exact HO227.out) hb); have n2_ := Aside0.mk (below_step (by repeat (first | (with_reducible first | exact HB.out | apply below_alloc | apply pw_below_drewN | apply below_drew1) | exact HB.out)) hb); clear HO223; clear HO227; clear HB; have HO223 := n0_; have HO227 := n1_; have HB := n2_; clear n0_ n1_ n2_; (try clear hb); (try clear hb2); (try clear hk); (try clear hi)) | ((with_reducible refine gate_dst (N := 74) rfl ?_); (try (refine gate_guard (by rfl) ?_; dsimp only)); refine Conv.bytes _ 5 rfl (N := 74) rfl 9 22 _ rfl (t228 ++ (⟨#[32, 120]⟩ : ByteArray)) rfl Try.underlying9 Try.underlying22 Try.underlying5 (of_decide_eq_true (by first | (with_reducible assumption) | assumption)) (ok := (fun k_ => some k_ ≠ (v226 : Value).ownBlock)) ((show ∀ k_, w153.heap.size ≤ k_ → (fun k_ => some k_ ≠ (v226 : Value).ownBlock) k_ from fun k_ hk => Kd.fresh' (Kd.R_lt (by (with_reducible repeat (first | apply Kd.R_alloc | apply Kd.R_drewN | apply Kd.R_drew)); exact HO227.out)) k_ hk) _ (Nat.le_refl _)) (Below.refl _ _) (Nat.le_refl _) ?_; intro v230 w154 ho155 hb hg_ hnew_; clear hg_ hnew_; (first | rw [← Ny229.out] at ho155 | (simp only [Int.reduceToNat] at ho155; rw [← Ny229.out] at ho155)); have n0_ := Aside0.mk (Kd.V_below (by (with_reducible repeat (first | apply Kd.V_alloc | apply Kd.V_drewN | apply Kd.V_drew)); exact HO223.out) hb); have n1_ := Aside0.mk (Kd.R_below (by (with_reducible repeat (first | apply Kd.R_alloc | apply Kd.R_drewN | apply Kd.R_drew)); exact HO227.out) hb); have n2_ := Aside0.mk (Kd.V_lower ho155 (below_size (by repeat (first | (with_reducible first | exact HB.out | apply below_alloc | apply pw_below_drewN | apply below_drew1) | exact HB.out)))); have n3_ := Aside0.mk (below_step (by repeat (first | (with_reducible first | exact HB.out | apply below_alloc | apply pw_below_drewN | apply below_drew1) | exact HB.out)) hb); clear HO223; clear HO227; clear HB; have HO223 := n0_; have HO227 := n1_; have HO231 := n2_; have HB := n3_; clear n0_ n1_ n2_ n3_; clear hb ho155; obtain ⟨Ao156, co156, eo156⟩ := Kd.V_slice HO231.out; subst eo156) | ((with_reducible refine gate_callee (f := 17) rfl ?_); refine goesL_ (some 75) rfl rfl Try.func17 (by kernel_rfl) rfl #[.slice Ao156 y229.length co156] rfl (by (try simp only [List.map_toArray, List.map_cons, List.map_nil]); first | done | rfl | (simp only [List.length_drop, List.length_take]; rfl)) ?_; (with_reducible refine (wire_Tokens.calls kj15 _ _ y229 t232 t233 _ ?side1 ?side2 A58.out).mono ?_); (case side1 => repeat (first | exact (Kd.V_reads' HO231.out).2.2 | (with_reducible refine Kd.C_alloc ?_ _) | (with_reducible refine Kd.C_drewN ?_ _) | (with_reducible refine Kd.C_drew ?_))); (case side2 => exact (Kd.V_reads' HO231.out).2.1); rintro e w157 ⟨v234, rfl, ho0, hb⟩; refine ⟨_, rfl, ?_⟩; have n0_ := Aside0.mk (Kd.V_elder' (by (with_reducible repeat (first | apply Kd.V_alloc | apply Kd.V_drewN | apply Kd.V_drew)); exact HO223.out) (Kd.R_base ho0) hb); have n1_ := Aside0.mk (Kd.R_elder' (by (with_reducible repeat (first | apply Kd.R_alloc | apply Kd.R_drewN | apply Kd.R_drew)); exact HO227.out) (Kd.R_base ho0) hb); have n2_ := Aside0.mk (Kd.V_elder' (by (with_reducible repeat (first | apply Kd.V_alloc | apply Kd.V_drewN | apply Kd.V_drew)); exact HO231.out) (Kd.R_base ho0) hb); have n3_ := Aside0.mk (Kd.R_lower (Kd.R_new' ho0 (Kd.R_lt (by (with_reducible repeat (first | apply Kd.R_alloc | apply Kd.R_drewN | apply Kd.R_drew)); exact HO227.out))) (below_size (by repeat (first | (with_reducible first | exact HB.out | apply below_alloc | apply pw_below_drewN | apply below_drew1) | exact HB.out)))); have n4_ := Aside0.mk (below_step (by repeat (first | (with_reducible first | exact HB.out | apply below_alloc | apply pw_below_drewN | apply below_drew1) | exact HB.out)) hb); clear HO223; clear HO227; clear HO231; clear HB; have HO223 := n0_; have HO227 := n1_; have HO231 := n2_; have HO235 := n3_; have HB := n4_; clear n0_ n1_ n2_ n3_ n4_; (try clear hb); (try clear hb2); (try clear hk); (try clear hi); (try clear ho0)))
                        go_ret
                        exact ⟨by first | rfl | (simp [errW_none, errW_some] <;> rfl) | (simp [*, errW_none, errW_some] <;> rfl), by repeat (first | (with_reducible first | exact HB.out | apply below_alloc | apply pw_below_drewN | apply below_drew1) | exact HB.out)⟩
                    · rw [if_neg c57] at H
                      exact absurd H (by simp)
                  · rw [if_neg c56] at H
                    exact absurd H (by simp)
                · rw [if_neg c53] at H
                  exact absurd H (by simp)
  · replace c5 := Bool.eq_false_iff.mpr c5
    subst c5
    have H1 : (some false) = some r := by rw [if_neg (show ¬ (false = true) by decide)] at H; exact H
    clear H
    have H := H1
    clear H1
    obtain rfl := Option.some.inj H
    go_enter Try.func5, Try.ntmps5
    go_wp2_with (first | ((with_reducible refine gate_callee (f := 7) rfl ?_); refine goesL_ (some 12) rfl rfl Try.func7 (by kernel_rfl) rfl #[] rfl (by (try simp only [List.map_toArray, List.map_cons, List.map_nil]); first | done | rfl | (simp only [List.length_drop, List.length_take]; rfl)) ?_; (with_reducible refine (letterboxlaw18_awake.calls  false _ A4.out).mono ?_); rintro e w158 ⟨rfl, hb⟩; refine ⟨_, rfl, ?_⟩; have n0_ := Aside0.mk (below_step (by repeat (first | (with_reducible first | exact HB.out | apply below_alloc | apply pw_below_drewN | apply below_drew1) | exact HB.out)) hb); clear HB; have HB := n0_; clear n0_; (try clear hb); (try clear hb2); (try clear hk); (try clear hi)))
    go_ret
    exact ⟨by first | rfl | (simp [errW_none, errW_some] <;> rfl) | (simp [*, errW_none, errW_some] <;> rfl), by repeat (first | (with_reducible first | exact HB.out | apply below_alloc | apply pw_below_drewN | apply below_drew1) | exact HB.out)⟩

/-- THE ONE PURE STATEMENT of letterboxlaw18_WireStrings: yours. -/
def letterboxlaw18_WireStrings.Pure : Prop := ∀ (a0 : ByteArray) (a1 : Bool) (a2 : Bool), a0.size ≤ 140737488351232 → ∃ k, letterboxlaw18_WireStrings.f k a0 a1 a2 = some true
theorem letterboxlaw18_WireStrings.walk (P : letterboxlaw18_WireStrings.Pure) (a0 : ByteArray) (a1 : Bool) (a2 : Bool) (w : World) (w0 : a0.size ≤ 140737488351232) :
    Calls Try.prog 5 #[.string a0, .bool a1, .bool a2] w fun e w' => e = .returned (.bool true) ∧ Below w.heap.size w w' := by
  obtain ⟨k, h⟩ := P a0 a1 a2 w0
  refine (letterboxlaw18_WireStrings.calls k a0 a1 a2 true w h).mono ?_
  rintro e w' ⟨rfl, hd⟩
  exact ⟨rfl, hd⟩

end Go.Proofs.Ytmdhggiffdkmfaa.P
