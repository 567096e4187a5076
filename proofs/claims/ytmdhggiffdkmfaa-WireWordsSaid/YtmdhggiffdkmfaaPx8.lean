-- Written by a program of this session (wip/tools/mk.sh) for this claim: it runs the kit's print with contracts of our own. Lean checks it.
import Derived.Test.YtmdhggiffdkmfaaPx0
import Derived.Test.YtmdhggiffdkmfaaZStr
import Derived.Test.YtmdhggiffdkmfaaPx1
import Derived.Test.YtmdhggiffdkmfaaPx2
import Derived.Test.YtmdhggiffdkmfaaPx3
import Derived.Test.YtmdhggiffdkmfaaPx7
namespace Go.Proofs.Ytmdhggiffdkmfaa.P
open Go.RowKit Go.Proofs.YtmdhggiffdkmfaaW.PrintWords Go.Proofs.YtmdhggiffdkmfaaW.PrintLast Go.Proofs.YtmdhggiffdkmfaaW.PrintMore
attribute [-simp] Int.tmod_tmod_of_dvd
attribute [local go_sem] max2_int min2_int max_two min_two max_three min_three max_four min_four   -- for this text's walks alone
set_option linter.unusedVariables false
set_option linter.unusedSimpArgs false

/-! ### letterboxref18_String: function 13 -/
def letterboxref18_String.j0 : Nat → ByteArray → Bool → Option (ByteArray)
  | 0, _, _ => none
  | k + 1, x0, x13 => if x13 = true then ((letterboxref07_Quoted.f k x0).bind fun t208 => (some t208)) else ((letterboxref01_In.f k x0 0).bind fun t209 => ((letterboxref01_Digits.f k (x0.size : Int)).bind fun t210 => (if 1 + t210.size ≤ 9223372036854775807 then (if ((⟨#[123]⟩ : ByteArray) ++ t210).size + 3 ≤ 9223372036854775807 then (if (((⟨#[123]⟩ : ByteArray) ++ t210) ++ (⟨#[125, 13, 10]⟩ : ByteArray)).size + x0.size ≤ 9223372036854775807 then (if t209 = true then (if 1 + ((((⟨#[123]⟩ : ByteArray) ++ t210) ++ (⟨#[125, 13, 10]⟩ : ByteArray)) ++ x0).size ≤ 9223372036854775807 then (some ((⟨#[126]⟩ : ByteArray) ++ ((((⟨#[123]⟩ : ByteArray) ++ t210) ++ (⟨#[125, 13, 10]⟩ : ByteArray)) ++ x0))) else (none)) else (some ((((⟨#[123]⟩ : ByteArray) ++ t210) ++ (⟨#[125, 13, 10]⟩ : ByteArray)) ++ x0))) else (none)) else (none)) else (none))))
def letterboxref18_String.f (k : Nat) (a0 : ByteArray) : Option (ByteArray) := (letterboxref18_printed.f k a0).bind fun t207 => (if t207 = true then (letterboxref18_String.j0 k a0 (decide ((a0.size : Int) ≤ 1000))) else (letterboxref18_String.j0 k a0 false))
theorem letterboxref18_String.mono_l : ∀ k, (∀ y0 y1, LeO (letterboxref18_String.j0 k y0 y1) (letterboxref18_String.j0 (k + 1) y0 y1))
  | 0 => fun _ _ r h => by simp [letterboxref18_String.j0] at h
  | k + 1 => by
    have ih0 := letterboxref18_String.mono_l k
    · intro y0 y1
      unfold letterboxref18_String.j0
      repeat' first
      | (with_reducible exact ih0 _ _)
      | (with_reducible exact letterboxref01_Digits.mono _ _)
      | (with_reducible exact letterboxref01_In.mono _ _ _)
      | (with_reducible exact letterboxref07_Quoted.mono _ _)
      | (with_reducible exact letterboxref18_printed.mono _ _)
      | (with_reducible exact LeO.refl _)
      | (with_reducible exact LeO.none _)
      | (with_reducible refine LeO.ite ?_ ?_)
      | (with_reducible refine LeO.bind ?_ (fun _ => ?_))
      | exact ih0 _ _
      | exact letterboxref01_Digits.mono _ _
      | exact letterboxref01_In.mono _ _ _
      | exact letterboxref07_Quoted.mono _ _
      | exact letterboxref18_printed.mono _ _
      | exact LeO.none _
      | refine LeO.ite ?_ ?_
      | refine LeO.bind ?_ (fun _ => ?_)
theorem letterboxref18_String.mono : ∀ a0 k, LeO (letterboxref18_String.f k a0) (letterboxref18_String.f (k + 1) a0) := by
  intro a0 k
  have ih0 := letterboxref18_String.mono_l k
  unfold letterboxref18_String.f
  repeat' first
      | (with_reducible exact ih0 _ _)
      | (with_reducible exact letterboxref01_Digits.mono _ _)
      | (with_reducible exact letterboxref01_In.mono _ _ _)
      | (with_reducible exact letterboxref07_Quoted.mono _ _)
      | (with_reducible exact letterboxref18_printed.mono _ _)
      | (with_reducible exact LeO.refl _)
      | (with_reducible exact LeO.none _)
      | (with_reducible refine LeO.ite ?_ ?_)
      | (with_reducible refine LeO.bind ?_ (fun _ => ?_))
      | exact ih0 _ _
      | exact letterboxref01_Digits.mono _ _
      | exact letterboxref01_In.mono _ _ _
      | exact letterboxref07_Quoted.mono _ _
      | exact letterboxref18_printed.mono _ _
      | exact LeO.none _
      | refine LeO.ite ?_ ?_
      | refine LeO.bind ?_ (fun _ => ?_)
set_option maxHeartbeats 8000000 in
set_option maxRecDepth 100000 in
theorem letterboxref18_String.calls (k : Nat) (a0 : ByteArray) (r : ByteArray) (w : World) (h : letterboxref18_String.f k a0 = some r) :
    Calls Try.prog 13 #[.string a0] w fun e w' => e = .returned (.string r) ∧ Below w.heap.size w w' := by
  have HB := Aside0.mk (Below.refl w.heap.size w)
  have H : ((letterboxref18_printed.f k a0).bind fun t207 => (if t207 = true then (letterboxref18_String.j0 k a0 (decide ((a0.size : Int) ≤ 1000))) else (letterboxref18_String.j0 k a0 false))) = some r := h
  clear h
  replace H := Option.bind_eq_some_iff.mp H
  obtain ⟨t207, A20, H⟩ := H
  replace H : (if t207 = true then (letterboxref18_String.j0 k a0 (decide ((a0.size : Int) ≤ 1000))) else (letterboxref18_String.j0 k a0 false)) = some r := H
  have A2 := Aside0.mk A20
  clear A20
  have HC3 := Aside0.mk H
  clear H
  go_enter Try.func13, Try.ntmps13
  go_upto_region 2 with (first | ((with_reducible refine gate_callee (f := 25) rfl ?_); refine goesL_ (some 7) rfl rfl Try.func25 (by kernel_rfl) rfl #[.string a0] rfl (by (try simp only [List.map_toArray, List.map_cons, List.map_nil]); first | done | rfl | (simp only [List.length_drop, List.length_take]; rfl)) ?_; (with_reducible refine (letterboxref18_printed.calls k a0 t207 _ A2.out).mono ?_); rintro e w' ⟨rfl, ⟨nd, rfl⟩⟩; refine ⟨_, rfl, ?_⟩))
  (try simp only [Act.put, List.setIfInBounds_toArray, List.set_cons_zero, List.set_cons_succ])
  go_cut [13] (fun v13 wc => ∃ (kq : Nat) (x13_2 : Bool), v13 = .bool x13_2 ∧ Aside0 (letterboxref18_String.j0 kq a0 x13_2 = some r) ∧ Aside0 (kq ≤ k) ∧ Aside0 (Below w.heap.size w wc))
  case first =>
    have H := HC3.out
    clear HC3
    by_cases c4 : t207 = true
    · subst c4
      have H1 : (letterboxref18_String.j0 k a0 (decide ((a0.size : Int) ≤ 1000))) = some r := by rw [if_pos rfl] at H; exact H
      clear H
      have H := H1
      clear H1
      have H' := Aside0.mk H
      clear H
      go_wp2
      go_meet
      case rel => exact ⟨_, (decide ((a0.size : Int) ≤ 1000)), (by first | rfl | (simp; done) | (simp [*]; done)), H', ⟨by first | omega | exact Nat.le_refl _⟩, ⟨by repeat (first | (with_reducible first | exact HB.out | apply below_alloc | apply pw_below_drewN | apply below_drew1) | exact HB.out)⟩⟩
    · replace c4 := Bool.eq_false_iff.mpr c4
      subst c4
      have H1 : (letterboxref18_String.j0 k a0 false) = some r := by rw [if_neg (show ¬ (false = true) by decide)] at H; exact H
      clear H
      have H := H1
      clear H1
      have H' := Aside0.mk H
      clear H
      go_wp2
      go_meet
      case rel => exact ⟨_, (false), (by first | rfl | (simp; done) | (simp [*]; done)), H', ⟨by first | omega | exact Nat.le_refl _⟩, ⟨by repeat (first | (with_reducible first | exact HB.out | apply below_alloc | apply pw_below_drewN | apply below_drew1) | exact HB.out)⟩⟩
  case rest =>
    clear HC3
    try clear c1
    try clear c2
    try clear p2
    try clear c4
    obtain ⟨kq, x13_2, rfl, HA, HJ2, HB⟩ := hcut
    cases kq with
    | zero => exact absurd HA.out (by simp [letterboxref18_String.j0])
    | succ kj2 =>
      have H := HA.out
      clear HA
      simp only [letterboxref18_String.j0] at H
      by_cases c5 : x13_2 = true
      · subst c5
        have H1 : ((letterboxref07_Quoted.f kj2 a0).bind fun t208 => (some t208)) = some r := by rw [if_pos rfl] at H; exact H
        clear H
        have H := H1
        clear H1
        replace H := Option.bind_eq_some_iff.mp H
        obtain ⟨t208, A60, H⟩ := H
        replace H : (some t208) = some r := H
        have A6 := Aside0.mk A60
        clear A60
        obtain rfl := Option.some.inj H
        go_wp2_with (first | ((with_reducible refine gate_callee (f := 26) rfl ?_); refine goesL_ (some 15) rfl rfl Try.func26 (by kernel_rfl) rfl #[.string a0] rfl (by (try simp only [List.map_toArray, List.map_cons, List.map_nil]); first | done | rfl | (simp only [List.length_drop, List.length_take]; rfl)) ?_; (with_reducible refine (letterboxref07_Quoted.calls kj2 a0 t208 _ A6.out).mono ?_); rintro e w' ⟨rfl, ⟨nd, rfl⟩⟩; refine ⟨_, rfl, ?_⟩))
        go_ret
        exact ⟨by first | rfl | (simp [errW_none, errW_some] <;> rfl) | (simp [*, errW_none, errW_some] <;> rfl), by repeat (first | (with_reducible first | exact HB.out | apply below_alloc | apply pw_below_drewN | apply below_drew1) | exact HB.out)⟩
      · replace c5 := Bool.eq_false_iff.mpr c5
        subst c5
        have H1 : ((letterboxref01_In.f kj2 a0 0).bind fun t209 => ((letterboxref01_Digits.f kj2 (a0.size : Int)).bind fun t210 => (if 1 + t210.size ≤ 9223372036854775807 then (if ((⟨#[123]⟩ : ByteArray) ++ t210).size + 3 ≤ 9223372036854775807 then (if (((⟨#[123]⟩ : ByteArray) ++ t210) ++ (⟨#[125, 13, 10]⟩ : ByteArray)).size + a0.size ≤ 9223372036854775807 then (if t209 = true then (if 1 + ((((⟨#[123]⟩ : ByteArray) ++ t210) ++ (⟨#[125, 13, 10]⟩ : ByteArray)) ++ a0).size ≤ 9223372036854775807 then (some ((⟨#[126]⟩ : ByteArray) ++ ((((⟨#[123]⟩ : ByteArray) ++ t210) ++ (⟨#[125, 13, 10]⟩ : ByteArray)) ++ a0))) else (none)) else (some ((((⟨#[123]⟩ : ByteArray) ++ t210) ++ (⟨#[125, 13, 10]⟩ : ByteArray)) ++ a0))) else (none)) else (none)) else (none)))) = some r := by rw [if_neg (show ¬ (false = true) by decide)] at H; exact H
        clear H
        have H := H1
        clear H1
        replace H := Option.bind_eq_some_iff.mp H
        obtain ⟨t209, A70, H⟩ := H
        replace H : ((letterboxref01_Digits.f kj2 (a0.size : Int)).bind fun t210 => (if 1 + t210.size ≤ 9223372036854775807 then (if ((⟨#[123]⟩ : ByteArray) ++ t210).size + 3 ≤ 9223372036854775807 then (if (((⟨#[123]⟩ : ByteArray) ++ t210) ++ (⟨#[125, 13, 10]⟩ : ByteArray)).size + a0.size ≤ 9223372036854775807 then (if t209 = true then (if 1 + ((((⟨#[123]⟩ : ByteArray) ++ t210) ++ (⟨#[125, 13, 10]⟩ : ByteArray)) ++ a0).size ≤ 9223372036854775807 then (some ((⟨#[126]⟩ : ByteArray) ++ ((((⟨#[123]⟩ : ByteArray) ++ t210) ++ (⟨#[125, 13, 10]⟩ : ByteArray)) ++ a0))) else (none)) else (some ((((⟨#[123]⟩ : ByteArray) ++ t210) ++ (⟨#[125, 13, 10]⟩ : ByteArray)) ++ a0))) else (none)) else (none)) else (none))) = some r := H
        have A7 := Aside0.mk A70
        clear A70
        replace H := Option.bind_eq_some_iff.mp H
        obtain ⟨t210, A80, H⟩ := H
        replace H : (if 1 + t210.size ≤ 9223372036854775807 then (if ((⟨#[123]⟩ : ByteArray) ++ t210).size + 3 ≤ 9223372036854775807 then (if (((⟨#[123]⟩ : ByteArray) ++ t210) ++ (⟨#[125, 13, 10]⟩ : ByteArray)).size + a0.size ≤ 9223372036854775807 then (if t209 = true then (if 1 + ((((⟨#[123]⟩ : ByteArray) ++ t210) ++ (⟨#[125, 13, 10]⟩ : ByteArray)) ++ a0).size ≤ 9223372036854775807 then (some ((⟨#[126]⟩ : ByteArray) ++ ((((⟨#[123]⟩ : ByteArray) ++ t210) ++ (⟨#[125, 13, 10]⟩ : ByteArray)) ++ a0))) else (none)) else (some ((((⟨#[123]⟩ : ByteArray) ++ t210) ++ (⟨#[125, 13, 10]⟩ : ByteArray)) ++ a0))) else (none)) else (none)) else (none)) = some r := H
        have A8 := Aside0.mk A80
        clear A80
        by_cases c9 : 1 + t210.size ≤ 9223372036854775807
        · rw [if_pos c9] at H
          have c9b0 := eq_true c9
          have c9b1 : decide (1 + t210.size ≤ 9223372036854775807) = true := decide_eq_true c9
          try have c9b2 : (9223372036854775807 < 1 + t210.size) = False := eq_false (Nat.not_lt.2 c9)
          by_cases c10 : ((⟨#[123]⟩ : ByteArray) ++ t210).size + 3 ≤ 9223372036854775807
          · rw [if_pos c10] at H
            have c10b0 := eq_true c10
            have c10b1 : decide (((⟨#[123]⟩ : ByteArray) ++ t210).size + 3 ≤ 9223372036854775807) = true := decide_eq_true c10
            try have c10b2 : (9223372036854775807 < ((⟨#[123]⟩ : ByteArray) ++ t210).size + 3) = False := eq_false (Nat.not_lt.2 c10)
            try have c10b4 : (9223372036854775807 < 1 + t210.size + 3) = False := eq_false (Nat.not_lt.2 (by have h_ := c10; simp only [ByteArray.size_append] at h_; exact h_))
            by_cases c11 : (((⟨#[123]⟩ : ByteArray) ++ t210) ++ (⟨#[125, 13, 10]⟩ : ByteArray)).size + a0.size ≤ 9223372036854775807
            · rw [if_pos c11] at H
              have c11b0 := eq_true c11
              have c11b1 : decide ((((⟨#[123]⟩ : ByteArray) ++ t210) ++ (⟨#[125, 13, 10]⟩ : ByteArray)).size + a0.size ≤ 9223372036854775807) = true := decide_eq_true c11
              try have c11b2 : (9223372036854775807 < (((⟨#[123]⟩ : ByteArray) ++ t210) ++ (⟨#[125, 13, 10]⟩ : ByteArray)).size + a0.size) = False := eq_false (Nat.not_lt.2 c11)
              try have c11b4 : (9223372036854775807 < 1 + t210.size + 3 + a0.size) = False := eq_false (Nat.not_lt.2 (by have h_ := c11; simp only [ByteArray.size_append] at h_; exact h_))
              by_cases c12 : t209 = true
              · subst c12
                have H1 : (if 1 + ((((⟨#[123]⟩ : ByteArray) ++ t210) ++ (⟨#[125, 13, 10]⟩ : ByteArray)) ++ a0).size ≤ 9223372036854775807 then (some ((⟨#[126]⟩ : ByteArray) ++ ((((⟨#[123]⟩ : ByteArray) ++ t210) ++ (⟨#[125, 13, 10]⟩ : ByteArray)) ++ a0))) else (none)) = some r := by rw [if_pos rfl] at H; exact H
                clear H
                have H := H1
                clear H1
                by_cases c13 : 1 + ((((⟨#[123]⟩ : ByteArray) ++ t210) ++ (⟨#[125, 13, 10]⟩ : ByteArray)) ++ a0).size ≤ 9223372036854775807
                · rw [if_pos c13] at H
                  have c13b0 := eq_true c13
                  have c13b1 : decide (1 + ((((⟨#[123]⟩ : ByteArray) ++ t210) ++ (⟨#[125, 13, 10]⟩ : ByteArray)) ++ a0).size ≤ 9223372036854775807) = true := decide_eq_true c13
                  try have c13b2 : (9223372036854775807 < 1 + ((((⟨#[123]⟩ : ByteArray) ++ t210) ++ (⟨#[125, 13, 10]⟩ : ByteArray)) ++ a0).size) = False := eq_false (Nat.not_lt.2 c13)
                  try have c13b4 : (9223372036854775807 < 1 + (1 + t210.size + 3 + a0.size)) = False := eq_false (Nat.not_lt.2 (by have h_ := c13; simp only [ByteArray.size_append] at h_; exact h_))
                  obtain rfl := Option.some.inj H
                  go_wp2_with (first | ((with_reducible refine gate_callee (f := 27) rfl ?_); refine goesL_ (some 17) rfl rfl Try.func27 (by kernel_rfl) rfl #[.string a0, .int .u8 0] rfl (by (try simp only [List.map_toArray, List.map_cons, List.map_nil]); first | done | rfl | (simp only [List.length_drop, List.length_take]; rfl)) ?_; (with_reducible refine (letterboxref01_In.calls kj2 a0 0 true _ A7.out).mono ?_); rintro e w' ⟨rfl, ⟨nd, rfl⟩⟩; refine ⟨_, rfl, ?_⟩) | ((with_reducible refine gate_callee (f := 28) rfl ?_); refine goesL_ (some 20) rfl rfl Try.func28 (by kernel_rfl) rfl #[.int .i64 (a0.size : Int)] rfl (by (try simp only [List.map_toArray, List.map_cons, List.map_nil]); first | done | rfl | (simp only [List.length_drop, List.length_take]; rfl)) ?_; (with_reducible refine (letterboxref01_Digits.calls kj2 (a0.size : Int) t210 _ A8.out).mono ?_); rintro e w14 ⟨rfl, hb⟩; refine ⟨_, rfl, ?_⟩; have n0_ := Aside0.mk (below_step (by repeat (first | (with_reducible first | exact HB.out | apply below_alloc | apply pw_below_drewN | apply below_drew1) | exact HB.out)) hb); clear HB; have HB := n0_; clear n0_; (try clear hb); (try clear hb2); (try clear hk); (try clear hi)))
                  go_ret
                  exact ⟨by first | rfl | (simp [errW_none, errW_some] <;> rfl) | (simp [*, errW_none, errW_some] <;> rfl), by repeat (first | (with_reducible first | exact HB.out | apply below_alloc | apply pw_below_drewN | apply below_drew1) | exact HB.out)⟩
                · rw [if_neg c13] at H
                  exact absurd H (by simp)
              · replace c12 := Bool.eq_false_iff.mpr c12
                subst c12
                have H1 : (some ((((⟨#[123]⟩ : ByteArray) ++ t210) ++ (⟨#[125, 13, 10]⟩ : ByteArray)) ++ a0)) = some r := by rw [if_neg (show ¬ (false = true) by decide)] at H; exact H
                clear H
                have H := H1
                clear H1
                obtain rfl := Option.some.inj H
                go_wp2_with (first | ((with_reducible refine gate_callee (f := 27) rfl ?_); refine goesL_ (some 17) rfl rfl Try.func27 (by kernel_rfl) rfl #[.string a0, .int .u8 0] rfl (by (try simp only [List.map_toArray, List.map_cons, List.map_nil]); first | done | rfl | (simp only [List.length_drop, List.length_take]; rfl)) ?_; (with_reducible refine (letterboxref01_In.calls kj2 a0 0 false _ A7.out).mono ?_); rintro e w' ⟨rfl, ⟨nd, rfl⟩⟩; refine ⟨_, rfl, ?_⟩) | ((with_reducible refine gate_callee (f := 28) rfl ?_); refine goesL_ (some 20) rfl rfl Try.func28 (by kernel_rfl) rfl #[.int .i64 (a0.size : Int)] rfl (by (try simp only [List.map_toArray, List.map_cons, List.map_nil]); first | done | rfl | (simp only [List.length_drop, List.length_take]; rfl)) ?_; (with_reducible refine (letterboxref01_Digits.calls kj2 (a0.size : Int) t210 _ A8.out).mono ?_); rintro e w15 ⟨rfl, hb⟩; refine ⟨_, rfl, ?_⟩; have n0_ := Aside0.mk (below_step (by repeat (first | (with_reducible first | exact HB.out | apply below_alloc | apply pw_below_drewN | apply below_drew1) | exact HB.out)) hb); clear HB; have HB := n0_; clear n0_; (try clear hb); (try clear hb2); (try clear hk); (try clear hi)))
                go_ret
                exact ⟨by first | rfl | (simp [errW_none, errW_some] <;> rfl) | (simp [*, errW_none, errW_some] <;> rfl), by repeat (first | (with_reducible first | exact HB.out | apply below_alloc | apply pw_below_drewN | apply below_drew1) | exact HB.out)⟩
            · rw [if_neg c11] at H
              exact absurd H (by simp)
          · rw [if_neg c10] at H
            exact absurd H (by simp)
        · rw [if_neg c9] at H
          exact absurd H (by simp)

/-! ### wire_Astring: function 14 -/
def wire_Astring.f (k : Nat) (a0 : ByteArray) : Option (ByteArray) := if a0.toList = ([] : List UInt8) then ((wire_String.f k a0).bind fun t211 => (some t211)) else ((wire_all.f a0 29).bind fun t212 => (if t212 = true then ((strings_IndexByte.f a0 91).bind fun t213 => (if t213 < 0 then (some a0) else ((wire_String.f k a0).bind fun t214 => (some t214)))) else ((wire_String.f k a0).bind fun t215 => (some t215))))
theorem wire_Astring.mono : ∀ a0 k, LeO (wire_Astring.f k a0) (wire_Astring.f (k + 1) a0) := by
  intro a0 k
  unfold wire_Astring.f
  repeat' first
      | (with_reducible exact wire_String.mono _ _)
      | (with_reducible exact LeO.refl _)
      | (with_reducible exact LeO.none _)
      | (with_reducible refine LeO.ite ?_ ?_)
      | (with_reducible refine LeO.bind ?_ (fun _ => ?_))
      | exact wire_String.mono _ _
      | exact LeO.none _
      | refine LeO.ite ?_ ?_
      | refine LeO.bind ?_ (fun _ => ?_)
set_option maxHeartbeats 8000000 in
set_option maxRecDepth 100000 in
theorem wire_Astring.calls (k : Nat) (a0 : ByteArray) (r : ByteArray) (w : World) (h : wire_Astring.f k a0 = some r) :
    Calls Try.prog 14 #[.string a0] w fun e w' => e = .returned (.string r) ∧ Below w.heap.size w w' := by
  have HB := Aside0.mk (Below.refl w.heap.size w)
  have H : (if a0.toList = ([] : List UInt8) then ((wire_String.f k a0).bind fun t211 => (some t211)) else ((wire_all.f a0 29).bind fun t212 => (if t212 = true then ((strings_IndexByte.f a0 91).bind fun t213 => (if t213 < 0 then (some a0) else ((wire_String.f k a0).bind fun t214 => (some t214)))) else ((wire_String.f k a0).bind fun t215 => (some t215))))) = some r := h
  clear h
  by_cases c2 : a0.toList = ([] : List UInt8)
  · rw [if_pos c2] at H
    have c2b0 : (a0.toList == ([] : List UInt8)) = true := beq_iff_eq.mpr c2
    have c2b1 : (a0.toList != ([] : List UInt8)) = false := bne_eq_false_iff_eq.mpr c2
    clear c2
    replace H := Option.bind_eq_some_iff.mp H
    obtain ⟨t211, A30, H⟩ := H
    replace H : (some t211) = some r := H
    have A3 := Aside0.mk A30
    clear A30
    obtain rfl := Option.some.inj H
    go_enter Try.func14, Try.ntmps14
    go_wp2_with (first | ((with_reducible refine gate_callee (f := 12) rfl ?_); refine goesL_ (some 16) rfl rfl Try.func12 (by kernel_rfl) rfl #[.string a0] rfl (by (try simp only [List.map_toArray, List.map_cons, List.map_nil]); first | done | rfl | (simp only [List.length_drop, List.length_take]; rfl)) ?_; (with_reducible refine (wire_String.calls k a0 t211 _ A3.out).mono ?_); rintro e w4 ⟨rfl, hb⟩; refine ⟨_, rfl, ?_⟩; have n0_ := Aside0.mk (below_step (by repeat (first | (with_reducible first | exact HB.out | apply below_alloc | apply pw_below_drewN | apply below_drew1) | exact HB.out)) hb); clear HB; have HB := n0_; clear n0_; (try clear hb); (try clear hb2); (try clear hk); (try clear hi)))
    go_ret
    exact ⟨by first | rfl | (simp [errW_none, errW_some] <;> rfl) | (simp [*, errW_none, errW_some] <;> rfl), by repeat (first | (with_reducible first | exact HB.out | apply below_alloc | apply pw_below_drewN | apply below_drew1) | exact HB.out)⟩
  · rw [if_neg c2] at H
    have c2b0 : (a0.toList == ([] : List UInt8)) = false := beq_eq_false_iff_ne.mpr c2
    have c2b1 : (a0.toList != ([] : List UInt8)) = true := bne_iff_ne.mpr c2
    replace H := Option.bind_eq_some_iff.mp H
    obtain ⟨t212, A50, H⟩ := H
    replace H : (if t212 = true then ((strings_IndexByte.f a0 91).bind fun t213 => (if t213 < 0 then (some a0) else ((wire_String.f k a0).bind fun t214 => (some t214)))) else ((wire_String.f k a0).bind fun t215 => (some t215))) = some r := H
    have A5 := Aside0.mk A50
    clear A50
    by_cases c6 : t212 = true
    · subst c6
      have H1 : ((strings_IndexByte.f a0 91).bind fun t213 => (if t213 < 0 then (some a0) else ((wire_String.f k a0).bind fun t214 => (some t214)))) = some r := by rw [if_pos rfl] at H; exact H
      clear H
      have H := H1
      clear H1
      replace H := Option.bind_eq_some_iff.mp H
      obtain ⟨t213, A70, H⟩ := H
      replace H : (if t213 < 0 then (some a0) else ((wire_String.f k a0).bind fun t214 => (some t214))) = some r := H
      have A7 := Aside0.mk A70
      clear A70
      by_cases c8 : t213 < 0
      · rw [if_pos c8] at H
        have c8b0 : decide (t213 < 0) = true := decide_eq_true c8
        clear c8
        obtain rfl := Option.some.inj H
        go_enter Try.func14, Try.ntmps14
        go_wp2_with (first | (go_at_call 20; (with_reducible refine (wire_all.calls a0 29 true _ A5.out).mono ?_); rintro e w9 ⟨rfl, hb⟩; have n0_ := Aside0.mk (below_step (by repeat (first | (with_reducible first | exact HB.out | apply below_alloc | apply pw_below_drewN | apply below_drew1) | exact HB.out)) hb); clear HB; have HB := n0_; clear n0_; (try clear hb); (try clear hb2); (try clear hk); (try clear hi)) | (go_at_call 24; (with_reducible refine (strings_IndexByte.calls a0 91 t213 _ A7.out).mono ?_); rintro e w' ⟨rfl, ⟨nd, rfl⟩⟩))
        go_ret
        exact ⟨by first | rfl | (simp [errW_none, errW_some] <;> rfl) | (simp [*, errW_none, errW_some] <;> rfl), by repeat (first | (with_reducible first | exact HB.out | apply below_alloc | apply pw_below_drewN | apply below_drew1) | exact HB.out)⟩
      · rw [if_neg c8] at H
        have c8b0 : decide (t213 < 0) = false := decide_eq_false c8
        clear c8
        replace H := Option.bind_eq_some_iff.mp H
        obtain ⟨t214, A100, H⟩ := H
        replace H : (some t214) = some r := H
        have A10 := Aside0.mk A100
        clear A100
        obtain rfl := Option.some.inj H
        go_enter Try.func14, Try.ntmps14
        go_wp2_with (first | (go_at_call 20; (with_reducible refine (wire_all.calls a0 29 true _ A5.out).mono ?_); rintro e w11 ⟨rfl, hb⟩; have n0_ := Aside0.mk (below_step (by repeat (first | (with_reducible first | exact HB.out | apply below_alloc | apply pw_below_drewN | apply below_drew1) | exact HB.out)) hb); clear HB; have HB := n0_; clear n0_; (try clear hb); (try clear hb2); (try clear hk); (try clear hi)) | (go_at_call 24; (with_reducible refine (strings_IndexByte.calls a0 91 t213 _ A7.out).mono ?_); rintro e w' ⟨rfl, ⟨nd, rfl⟩⟩) | ((with_reducible refine gate_callee (f := 12) rfl ?_); refine goesL_ (some 16) rfl rfl Try.func12 (by kernel_rfl) rfl #[.string a0] rfl (by (try simp only [List.map_toArray, List.map_cons, List.map_nil]); first | done | rfl | (simp only [List.length_drop, List.length_take]; rfl)) ?_; (with_reducible refine (wire_String.calls k a0 t214 _ A10.out).mono ?_); rintro e w12 ⟨rfl, hb⟩; refine ⟨_, rfl, ?_⟩; have n0_ := Aside0.mk (below_step (by repeat (first | (with_reducible first | exact HB.out | apply below_alloc | apply pw_below_drewN | apply below_drew1) | exact HB.out)) hb); clear HB; have HB := n0_; clear n0_; (try clear hb); (try clear hb2); (try clear hk); (try clear hi)))
        go_ret
        exact ⟨by first | rfl | (simp [errW_none, errW_some] <;> rfl) | (simp [*, errW_none, errW_some] <;> rfl), by repeat (first | (with_reducible first | exact HB.out | apply below_alloc | apply pw_below_drewN | apply below_drew1) | exact HB.out)⟩
    · replace c6 := Bool.eq_false_iff.mpr c6
      subst c6
      have H1 : ((wire_String.f k a0).bind fun t215 => (some t215)) = some r := by rw [if_neg (show ¬ (false = true) by decide)] at H; exact H
      clear H
      have H := H1
      clear H1
      replace H := Option.bind_eq_some_iff.mp H
      obtain ⟨t215, A130, H⟩ := H
      replace H : (some t215) = some r := H
      have A13 := Aside0.mk A130
      clear A130
      obtain rfl := Option.some.inj H
      go_enter Try.func14, Try.ntmps14
      go_wp2_with (first | (go_at_call 20; (with_reducible refine (wire_all.calls a0 29 false _ A5.out).mono ?_); rintro e w14 ⟨rfl, hb⟩; have n0_ := Aside0.mk (below_step (by repeat (first | (with_reducible first | exact HB.out | apply below_alloc | apply pw_below_drewN | apply below_drew1) | exact HB.out)) hb); clear HB; have HB := n0_; clear n0_; (try clear hb); (try clear hb2); (try clear hk); (try clear hi)) | ((with_reducible refine gate_callee (f := 12) rfl ?_); refine goesL_ (some 16) rfl rfl Try.func12 (by kernel_rfl) rfl #[.string a0] rfl (by (try simp only [List.map_toArray, List.map_cons, List.map_nil]); first | done | rfl | (simp only [List.length_drop, List.length_take]; rfl)) ?_; (with_reducible refine (wire_String.calls k a0 t215 _ A13.out).mono ?_); rintro e w15 ⟨rfl, hb⟩; refine ⟨_, rfl, ?_⟩; have n0_ := Aside0.mk (below_step (by repeat (first | (with_reducible first | exact HB.out | apply below_alloc | apply pw_below_drewN | apply below_drew1) | exact HB.out)) hb); clear HB; have HB := n0_; clear n0_; (try clear hb); (try clear hb2); (try clear hk); (try clear hi)))
      go_ret
      exact ⟨by first | rfl | (simp [errW_none, errW_some] <;> rfl) | (simp [*, errW_none, errW_some] <;> rfl), by repeat (first | (with_reducible first | exact HB.out | apply below_alloc | apply pw_below_drewN | apply below_drew1) | exact HB.out)⟩

/-! ### letterboxref01_Atom: function 30 -/
def letterboxref01_Atom.f (k : Nat) (a0 : Int) : Option (Bool) := (letterboxref01_In.f k (⟨#[40, 41, 123, 37, 42, 34, 92, 93]⟩ : ByteArray) a0).bind fun t216 => (if a0 > 32 then (if a0 < 127 then (some (!t216)) else (some false)) else (some false))
theorem letterboxref01_Atom.mono : ∀ a0 k, LeO (letterboxref01_Atom.f k a0) (letterboxref01_Atom.f (k + 1) a0) := by
  intro a0 k
  unfold letterboxref01_Atom.f
  repeat' first
      | (with_reducible exact letterboxref01_In.mono _ _ _)
      | (with_reducible exact LeO.refl _)
      | (with_reducible exact LeO.none _)
      | (with_reducible refine LeO.ite ?_ ?_)
      | (with_reducible refine LeO.bind ?_ (fun _ => ?_))
      | exact letterboxref01_In.mono _ _ _
      | exact LeO.none _
      | refine LeO.ite ?_ ?_
      | refine LeO.bind ?_ (fun _ => ?_)
set_option maxHeartbeats 8000000 in
set_option maxRecDepth 100000 in
theorem letterboxref01_Atom.calls (k : Nat) (a0 : Int) (r : Bool) (w : World) (h : letterboxref01_Atom.f k a0 = some r) :
    Calls Try.prog 30 #[.int .u8 a0] w fun e w' => e = .returned (.bool r) ∧ Drawn0 w w' := by
  have H : ((letterboxref01_In.f k (⟨#[40, 41, 123, 37, 42, 34, 92, 93]⟩ : ByteArray) a0).bind fun t216 => (if a0 > 32 then (if a0 < 127 then (some (!t216)) else (some false)) else (some false))) = some r := h
  clear h
  replace H := Option.bind_eq_some_iff.mp H
  obtain ⟨t216, A20, H⟩ := H
  replace H : (if a0 > 32 then (if a0 < 127 then (some (!t216)) else (some false)) else (some false)) = some r := H
  have A2 := Aside0.mk A20
  clear A20
  by_cases c3 : a0 > 32
  · rw [if_pos c3] at H
    have c3b0 : decide (32 < a0) = true := decide_eq_true c3
    clear c3
    by_cases c4 : a0 < 127
    · rw [if_pos c4] at H
      have c4b0 : decide (a0 < 127) = true := decide_eq_true c4
      clear c4
      obtain rfl := Option.some.inj H
      go_enter Try.func30, Try.ntmps30
      go_wp2_with (first | ((with_reducible refine gate_callee (f := 27) rfl ?_); refine goesL_ (some 5) rfl rfl Try.func27 (by kernel_rfl) rfl #[.string (⟨#[40, 41, 123, 37, 42, 34, 92, 93]⟩ : ByteArray), .int .u8 a0] rfl (by (try simp only [List.map_toArray, List.map_cons, List.map_nil]); first | done | rfl | (simp only [List.length_drop, List.length_take]; rfl)) ?_; (with_reducible refine (letterboxref01_In.calls k (⟨#[40, 41, 123, 37, 42, 34, 92, 93]⟩ : ByteArray) a0 t216 _ A2.out).mono ?_); rintro e w' ⟨rfl, ⟨nd, rfl⟩⟩; refine ⟨_, rfl, ?_⟩))
      go_ret
      exact ⟨by first | rfl | (simp; done) | (simp [*]; done), by repeat (first | exact Drawn0.refl _ | apply Drawn0.step)⟩
    · rw [if_neg c4] at H
      have c4b0 : decide (a0 < 127) = false := decide_eq_false c4
      clear c4
      obtain rfl := Option.some.inj H
      go_enter Try.func30, Try.ntmps30
      go_wp2_with (first | ((with_reducible refine gate_callee (f := 27) rfl ?_); refine goesL_ (some 5) rfl rfl Try.func27 (by kernel_rfl) rfl #[.string (⟨#[40, 41, 123, 37, 42, 34, 92, 93]⟩ : ByteArray), .int .u8 a0] rfl (by (try simp only [List.map_toArray, List.map_cons, List.map_nil]); first | done | rfl | (simp only [List.length_drop, List.length_take]; rfl)) ?_; (with_reducible refine (letterboxref01_In.calls k (⟨#[40, 41, 123, 37, 42, 34, 92, 93]⟩ : ByteArray) a0 t216 _ A2.out).mono ?_); rintro e w' ⟨rfl, ⟨nd, rfl⟩⟩; refine ⟨_, rfl, ?_⟩))
      go_ret
      exact ⟨by first | rfl | (simp; done) | (simp [*]; done), by repeat (first | exact Drawn0.refl _ | apply Drawn0.step)⟩
  · rw [if_neg c3] at H
    have c3b0 : decide (32 < a0) = false := decide_eq_false c3
    clear c3
    obtain rfl := Option.some.inj H
    go_enter Try.func30, Try.ntmps30
    go_wp2_with (first | ((with_reducible refine gate_callee (f := 27) rfl ?_); refine goesL_ (some 5) rfl rfl Try.func27 (by kernel_rfl) rfl #[.string (⟨#[40, 41, 123, 37, 42, 34, 92, 93]⟩ : ByteArray), .int .u8 a0] rfl (by (try simp only [List.map_toArray, List.map_cons, List.map_nil]); first | done | rfl | (simp only [List.length_drop, List.length_take]; rfl)) ?_; (with_reducible refine (letterboxref01_In.calls k (⟨#[40, 41, 123, 37, 42, 34, 92, 93]⟩ : ByteArray) a0 t216 _ A2.out).mono ?_); rintro e w' ⟨rfl, ⟨nd, rfl⟩⟩; refine ⟨_, rfl, ?_⟩))
    go_ret
    exact ⟨by first | rfl | (simp; done) | (simp [*]; done), by repeat (first | exact Drawn0.refl _ | apply Drawn0.step)⟩

/-! ### letterboxref18_Astring: function 15 -/
def letterboxref18_Astring.l0 : Nat → ByteArray → Bool → Int → Option (ByteArray)
  | 0, _, _, _ => none
  | k + 1, x0, x3, x4 => if x4 < (x0.size : Int) then (if 0 ≤ x4 then ((letterboxref01_Atom.f k (bt x0 x4)).bind fun t217 => (if x3 = true then (if t217 = true then (letterboxref18_Astring.l0 k x0 ((bt x0 x4) != 91) (wrap64 (x4 + 1))) else (letterboxref18_Astring.l0 k x0 false (wrap64 (x4 + 1)))) else (letterboxref18_Astring.l0 k x0 false (wrap64 (x4 + 1))))) else (none)) else (if x3 = true then (some x0) else ((letterboxref18_String.f k x0).bind fun t218 => (some t218)))
def letterboxref18_Astring.f (k : Nat) (a0 : ByteArray) : Option (ByteArray) := letterboxref18_Astring.l0 k a0 (a0.toList != ([] : List UInt8)) 0
theorem letterboxref18_Astring.mono_l : ∀ k, (∀ y0 y1 y2, LeO (letterboxref18_Astring.l0 k y0 y1 y2) (letterboxref18_Astring.l0 (k + 1) y0 y1 y2))
  | 0 => fun _ _ _ r h => by simp [letterboxref18_Astring.l0] at h
  | k + 1 => by
    have ih0 := letterboxref18_Astring.mono_l k
    · intro y0 y1 y2
      unfold letterboxref18_Astring.l0
      repeat' first
      | (with_reducible exact ih0 _ _ _)
      | (with_reducible exact letterboxref01_Atom.mono _ _)
      | (with_reducible exact letterboxref18_String.mono _ _)
      | (with_reducible exact LeO.refl _)
      | (with_reducible exact LeO.none _)
      | (with_reducible refine LeO.ite ?_ ?_)
      | (with_reducible refine LeO.bind ?_ (fun _ => ?_))
      | exact ih0 _ _ _
      | exact letterboxref01_Atom.mono _ _
      | exact letterboxref18_String.mono _ _
      | exact LeO.none _
      | refine LeO.ite ?_ ?_
      | refine LeO.bind ?_ (fun _ => ?_)
theorem letterboxref18_Astring.mono : ∀ a0 k, LeO (letterboxref18_Astring.f k a0) (letterboxref18_Astring.f (k + 1) a0) := by
  intro a0 k
  have ih0 := letterboxref18_Astring.mono_l k
  unfold letterboxref18_Astring.f
  repeat' first
      | (with_reducible exact ih0 _ _ _)
      | (with_reducible exact letterboxref01_Atom.mono _ _)
      | (with_reducible exact letterboxref18_String.mono _ _)
      | (with_reducible exact LeO.refl _)
      | (with_reducible exact LeO.none _)
      | (with_reducible refine LeO.ite ?_ ?_)
      | (with_reducible refine LeO.bind ?_ (fun _ => ?_))
      | exact ih0 _ _ _
      | exact letterboxref01_Atom.mono _ _
      | exact letterboxref18_String.mono _ _
      | exact LeO.none _
      | refine LeO.ite ?_ ?_
      | refine LeO.bind ?_ (fun _ => ?_)
set_option maxHeartbeats 8000000 in
set_option maxRecDepth 100000 in
theorem letterboxref18_Astring.calls (k : Nat) (a0 : ByteArray) (r : ByteArray) (w : World) (h : letterboxref18_Astring.f k a0 = some r) :
    Calls Try.prog 15 #[.string a0] w fun e w' => e = .returned (.string r) ∧ Below w.heap.size w w' := by
  have HB := Aside0.mk (Below.refl w.heap.size w)
  have H : (letterboxref18_Astring.l0 k a0 (a0.toList != ([] : List UInt8)) 0) = some r := h
  clear h
  have H' := Aside0.mk H
  clear H
  go_enter Try.func15, Try.ntmps15
  go_wp2
  go_loopg [3, 4] k (fun kq v3 v4 w' => ∃ (x3_1 : Bool) (x4_1 : Int), v3 = .bool x3_1 ∧ v4 = .int .i64 x4_1 ∧ Aside0 (letterboxref18_Astring.l0 kq a0 x3_1 x4_1 = some r) ∧ Aside0 (kq ≤ k) ∧ Aside0 (Below w.heap.size w w'))
  case atStart => exact ⟨((a0.toList != ([] : List UInt8))), (0), (by first | rfl | (simp; done) | (simp [*]; done) | (cases h_ : ByteArray.toList a0 <;> simp [h_]; done)), (by first | rfl | (simp; done) | (simp [*]; done) | (cases h_ : ByteArray.toList a0 <;> simp [h_]; done)), H', ⟨Nat.le_refl _⟩, ⟨by repeat (first | (with_reducible first | exact HB.out | apply below_alloc | apply pw_below_drewN | apply below_drew1) | exact HB.out)⟩⟩
  case round =>
    clear H'
    try clear c1
    obtain ⟨x3_1, x4_1, rfl, rfl, HA, HK1, HB⟩ := hrel
    cases gk with
    | zero => exact absurd HA.out (by simp [letterboxref18_Astring.l0])
    | succ k1 =>
      have H := HA.out
      clear HA
      simp only [letterboxref18_Astring.l0] at H
      by_cases c2 : x4_1 < (a0.size : Int)
      · rw [if_pos c2] at H
        have c2b0 : decide (x4_1 < (a0.size : Int)) = true := decide_eq_true c2
        clear c2
        by_cases c3 : 0 ≤ x4_1
        · rw [if_pos c3] at H
          have c3b0 : decide (0 ≤ x4_1) = true := decide_eq_true c3
          clear c3
          replace H := Option.bind_eq_some_iff.mp H
          obtain ⟨t217, A50, H⟩ := H
          replace H : (if x3_1 = true then (if t217 = true then (letterboxref18_Astring.l0 k1 a0 ((bt a0 x4_1) != 91) (wrap64 (x4_1 + 1))) else (letterboxref18_Astring.l0 k1 a0 false (wrap64 (x4_1 + 1)))) else (letterboxref18_Astring.l0 k1 a0 false (wrap64 (x4_1 + 1)))) = some r := H
          have A5 := Aside0.mk A50
          clear A50
          by_cases c6 : x3_1 = true
          · subst c6
            have H1 : (if t217 = true then (letterboxref18_Astring.l0 k1 a0 ((bt a0 x4_1) != 91) (wrap64 (x4_1 + 1))) else (letterboxref18_Astring.l0 k1 a0 false (wrap64 (x4_1 + 1)))) = some r := by rw [if_pos rfl] at H; exact H
            clear H
            have H := H1
            clear H1
            by_cases c7 : t217 = true
            · subst c7
              have H1 : (letterboxref18_Astring.l0 k1 a0 ((bt a0 x4_1) != 91) (wrap64 (x4_1 + 1))) = some r := by rw [if_pos rfl] at H; exact H
              clear H
              have H := H1
              clear H1
              have H' := Aside0.mk H
              clear H
              have p4 : 0 ≤ (x4_1 : Int) := of_decide_eq_true (by first | (with_reducible assumption) | assumption)
              have q4 : x4_1 < (a0.size : Int) := of_decide_eq_true (by first | (with_reducible assumption) | assumption)
              have hx4 := bt_at a0 x4_1
              replace p4 := eq_true p4
              replace q4 := eq_true q4
              go_wp2_with (first | ((with_reducible refine gate_callee (f := 30) rfl ?_); refine goesL_ (some 17) rfl rfl Try.func30 (by kernel_rfl) rfl #[.int .u8 (bt a0 x4_1)] rfl (by (try simp only [List.map_toArray, List.map_cons, List.map_nil]); first | done | rfl | (simp only [List.length_drop, List.length_take]; rfl)) ?_; (with_reducible refine (letterboxref01_Atom.calls k1 (bt a0 x4_1) true _ A5.out).mono ?_); rintro e w' ⟨rfl, ⟨nd, rfl⟩⟩; refine ⟨_, rfl, ?_⟩; have p8 : 0 ≤ (x4_1 : Int) := of_decide_eq_true (by first | (with_reducible assumption) | assumption); have q8 : x4_1 < (a0.size : Int) := of_decide_eq_true (by first | (with_reducible assumption) | assumption); have hx8 := bt_at a0 x4_1; replace p8 := eq_true p8; replace q8 := eq_true q8))
              go_roundg k1
              case measure => have := HK1.out; omega
              case rel => exact ⟨(((bt a0 x4_1) != 91)), (wrap64 (x4_1 + 1)), (by first | rfl | (simp; done) | (simp [*]; done)), (by first | rfl | (simp; done) | (simp [*]; done)), H', ⟨by have := HK1.out; omega⟩, ⟨by repeat (first | (with_reducible first | exact HB.out | apply below_alloc | apply pw_below_drewN | apply below_drew1) | exact HB.out)⟩⟩
            · replace c7 := Bool.eq_false_iff.mpr c7
              subst c7
              have H1 : (letterboxref18_Astring.l0 k1 a0 false (wrap64 (x4_1 + 1))) = some r := by rw [if_neg (show ¬ (false = true) by decide)] at H; exact H
              clear H
              have H := H1
              clear H1
              have H' := Aside0.mk H
              clear H
              have p4 : 0 ≤ (x4_1 : Int) := of_decide_eq_true (by first | (with_reducible assumption) | assumption)
              have q4 : x4_1 < (a0.size : Int) := of_decide_eq_true (by first | (with_reducible assumption) | assumption)
              have hx4 := bt_at a0 x4_1
              replace p4 := eq_true p4
              replace q4 := eq_true q4
              go_wp2_with (first | ((with_reducible refine gate_callee (f := 30) rfl ?_); refine goesL_ (some 17) rfl rfl Try.func30 (by kernel_rfl) rfl #[.int .u8 (bt a0 x4_1)] rfl (by (try simp only [List.map_toArray, List.map_cons, List.map_nil]); first | done | rfl | (simp only [List.length_drop, List.length_take]; rfl)) ?_; (with_reducible refine (letterboxref01_Atom.calls k1 (bt a0 x4_1) false _ A5.out).mono ?_); rintro e w' ⟨rfl, ⟨nd, rfl⟩⟩; refine ⟨_, rfl, ?_⟩))
              go_roundg k1
              case measure => have := HK1.out; omega
              case rel => exact ⟨(false), (wrap64 (x4_1 + 1)), (by first | rfl | (simp; done) | (simp [*]; done)), (by first | rfl | (simp; done) | (simp [*]; done)), H', ⟨by have := HK1.out; omega⟩, ⟨by repeat (first | (with_reducible first | exact HB.out | apply below_alloc | apply pw_below_drewN | apply below_drew1) | exact HB.out)⟩⟩
          · replace c6 := Bool.eq_false_iff.mpr c6
            subst c6
            have H1 : (letterboxref18_Astring.l0 k1 a0 false (wrap64 (x4_1 + 1))) = some r := by rw [if_neg (show ¬ (false = true) by decide)] at H; exact H
            clear H
            have H := H1
            clear H1
            have H' := Aside0.mk H
            clear H
            have p4 : 0 ≤ (x4_1 : Int) := of_decide_eq_true (by first | (with_reducible assumption) | assumption)
            have q4 : x4_1 < (a0.size : Int) := of_decide_eq_true (by first | (with_reducible assumption) | assumption)
            have hx4 := bt_at a0 x4_1
            replace p4 := eq_true p4
            replace q4 := eq_true q4
            go_wp2_with (first | ((with_reducible refine gate_callee (f := 30) rfl ?_); refine goesL_ (some 17) rfl rfl Try.func30 (by kernel_rfl) rfl #[.int .u8 (bt a0 x4_1)] rfl (by (try simp only [List.map_toArray, List.map_cons, List.map_nil]); first | done | rfl | (simp only [List.length_drop, List.length_take]; rfl)) ?_; (with_reducible refine (letterboxref01_Atom.calls k1 (bt a0 x4_1) t217 _ A5.out).mono ?_); rintro e w' ⟨rfl, ⟨nd, rfl⟩⟩; refine ⟨_, rfl, ?_⟩))
            go_roundg k1
            case measure => have := HK1.out; omega
            case rel => exact ⟨(false), (wrap64 (x4_1 + 1)), (by first | rfl | (simp; done) | (simp [*]; done)), (by first | rfl | (simp; done) | (simp [*]; done)), H', ⟨by have := HK1.out; omega⟩, ⟨by repeat (first | (with_reducible first | exact HB.out | apply below_alloc | apply pw_below_drewN | apply below_drew1) | exact HB.out)⟩⟩
        · rw [if_neg c3] at H
          exact absurd H (by simp)
      · rw [if_neg c2] at H
        have c2b0 : decide (x4_1 < (a0.size : Int)) = false := decide_eq_false c2
        clear c2
        by_cases c9 : x3_1 = true
        · subst c9
          have H1 : (some a0) = some r := by rw [if_pos rfl] at H; exact H
          clear H
          have H := H1
          clear H1
          obtain rfl := Option.some.inj H
          go_wp2
          go_ret
          exact ⟨by first | rfl | (simp [errW_none, errW_some] <;> rfl) | (simp [*, errW_none, errW_some] <;> rfl), by repeat (first | (with_reducible first | exact HB.out | apply below_alloc | apply pw_below_drewN | apply below_drew1) | exact HB.out)⟩
        · replace c9 := Bool.eq_false_iff.mpr c9
          subst c9
          have H1 : ((letterboxref18_String.f k1 a0).bind fun t218 => (some t218)) = some r := by rw [if_neg (show ¬ (false = true) by decide)] at H; exact H
          clear H
          have H := H1
          clear H1
          replace H := Option.bind_eq_some_iff.mp H
          obtain ⟨t218, A100, H⟩ := H
          replace H : (some t218) = some r := H
          have A10 := Aside0.mk A100
          clear A100
          obtain rfl := Option.some.inj H
          go_wp2_with (first | ((with_reducible refine gate_callee (f := 13) rfl ?_); refine goesL_ (some 31) rfl rfl Try.func13 (by kernel_rfl) rfl #[.string a0] rfl (by (try simp only [List.map_toArray, List.map_cons, List.map_nil]); first | done | rfl | (simp only [List.length_drop, List.length_take]; rfl)) ?_; (with_reducible refine (letterboxref18_String.calls k1 a0 t218 _ A10.out).mono ?_); rintro e w11 ⟨rfl, hb⟩; refine ⟨_, rfl, ?_⟩; have n0_ := Aside0.mk (below_step (by repeat (first | (with_reducible first | exact HB.out | apply below_alloc | apply pw_below_drewN | apply below_drew1) | exact HB.out)) hb); clear HB; have HB := n0_; clear n0_; (try clear hb); (try clear hb2); (try clear hk); (try clear hi)))
          go_ret
          exact ⟨by first | rfl | (simp [errW_none, errW_some] <;> rfl) | (simp [*, errW_none, errW_some] <;> rfl), by repeat (first | (with_reducible first | exact HB.out | apply below_alloc | apply pw_below_drewN | apply below_drew1) | exact HB.out)⟩

end Go.Proofs.Ytmdhggiffdkmfaa.P
