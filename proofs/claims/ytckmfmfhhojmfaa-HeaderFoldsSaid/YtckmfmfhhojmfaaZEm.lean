import Derived.Test.YtckmfmfhhojmfaaZAp
namespace Go.Proofs.Ytckmfmfhhojmfaa.P
open Go.RowKit Go.Shelf Go.Proofs.YtckmfmfhhojmfaaW.PrintWords Go.Proofs.YtckmfmfhhojmfaaW.PrintLast Go.Proofs.YtckmfmfhhojmfaaW.PrintMore
attribute [-simp] Int.tmod_tmod_of_dvd
set_option linter.unusedVariables false
set_option linter.unusedSimpArgs false
def ln_emp : List S40 → Nat
  | [] => 0
  | x :: t => if x.f0 = x.f1 then 0 else ln_emp t + 1
theorem ln_emp_at : ∀ (l : List S40) (k : Nat), k ≤ l.length → (∀ j : Nat, j < k → (rd_T40 l (j : Int)).f0 ≠ (rd_T40 l (j : Int)).f1) → (k = l.length ∨ (rd_T40 l (k : Int)).f0 = (rd_T40 l (k : Int)).f1) → ln_emp l = k
  | [], k, h, _, _ => by simp at h; subst h; rfl
  | x :: t, 0, _, _, h => by
    rcases h with h | h
    · simp at h
    · show (if x.f0 = x.f1 then 0 else ln_emp t + 1) = 0
      exact if_pos h
  | x :: t, k + 1, hk, hn, h => by
    have h0 := hn 0 (by omega)
    show (if x.f0 = x.f1 then 0 else ln_emp t + 1) = k + 1
    rw [if_neg (show ¬ x.f0 = x.f1 from h0), ln_emp_at t k (by simp at hk; omega) (fun j hj => hn (j + 1) (by omega)) (h.elim (fun h => .inl (by simp at h; exact h)) (fun h => .inr h))]
theorem ln_empty1 (x y z : Int) (w : World) : Calls Try.prog 26 #[.agg #[.int .i64 x, .int .i64 y, .int .i64 z]] w fun e w' => e = .returned (.bool (x == y)) ∧ Below w.heap.size w w' := by
  go_enter Try.func26, Try.ntmps26
  go_wp2
  go_ret
  exact ⟨rfl, below_alloc (Below.refl _ _) _⟩
def ln_emr (l : List S40) : Int := if ln_emp l < l.length then (ln_emp l : Int) else -1
set_option maxHeartbeats 1000000 in
theorem ln_IndexFunc (A : Option Addr) (c : Nat) (l : List S40) (w : World) (hr : Kd.C k40 w A l.length l) (hl : l.length ≤ 100000) :
    Calls Try.prog 25 #[.slice A l.length c, .func (.func 26) #[] #[]] w fun e w' => e = .returned (.int .i64 (ln_emr l)) ∧ Below w.heap.size w w' := by
  go_enter Try.func25, Try.ntmps25
  go_wp2
  go_loopw [8] (fun i wr => ∃ k : Nat, k ≤ l.length ∧ i = .int .i64 (k : Int) ∧ Aside0 (Below w.heap.size w wr) ∧ Aside0 (∀ j : Nat, j < k → (rd_T40 l (j : Int)).f0 ≠ (rd_T40 l (j : Int)).f1)) (fun i _ => l.length - (intOf i).toNat)
  case atStart => exact ⟨0, Nat.zero_le _, rfl, ⟨Below.refl _ _⟩, ⟨fun j hj => by omega⟩⟩
  case round =>
    obtain ⟨k, hk, rfl, hB, hn⟩ := hrel
    by_cases hlt : k < l.length
    · have hb := ln_klt k _ hlt
      obtain ⟨ad, e1, hx0, hx1, hx2⟩ := at_T40 (Kd.C_below hr hB.out) (k : Int) (by omega) (by omega)
      cases e1
      simp only [Int.toNat_natCast] at hx0 hx1 hx2
      by_cases hv : (rd_T40 l (k : Int)).f0 = (rd_T40 l (k : Int)).f1
      · have hvb := Aside0.mk (show ((rd_T40 l (k : Int)).f0 == (rd_T40 l (k : Int)).f1) = true from beq_iff_eq.mpr hv)
        have HR := Aside0.mk (show ln_emr l = (k : Int) from by unfold ln_emr; rw [ln_emp_at l k hk hn.out (.inr hv), if_pos hlt])
        clear hv
        go_wp2_with (go_at_call 26; refine (ln_empty1 _ _ _ _).mono ?_; rw [hvb.out]; rintro e w2 ⟨rfl, hB2⟩; have HB2 := Aside0.mk hB2; clear hB2)
        go_ret
        rw [HR.out]
        exact ⟨rfl, hB.out.trans (HB2.out.mono hB.out.size)⟩
      · have hvb := Aside0.mk (show ((rd_T40 l (k : Int)).f0 == (rd_T40 l (k : Int)).f1) = false from beq_eq_false_iff_ne.mpr hv)
        have HV := Aside0.mk hv
        clear hv
        go_wp2_with (go_at_call 26; refine (ln_empty1 _ _ _ _).mono ?_; rw [hvb.out]; rintro e w2 ⟨rfl, hB2⟩; have HB2 := Aside0.mk hB2; clear hB2)
        go_roundw
        case rel => exact ⟨k + 1, by omega, by go_num, ⟨hB.out.trans (HB2.out.mono hB.out.size)⟩, ⟨fun j hj => by
          by_cases e : j = k
          · subst e; exact HV.out
          · exact hn.out j (by omega)⟩⟩
        case measure => simp [intOf]; omega
    · have hb := ln_kge k _ hlt
      have HR := Aside0.mk (show ln_emr l = -1 from by unfold ln_emr; rw [ln_emp_at l k hk hn.out (.inl (by omega)), if_neg hlt])
      go_wp2
      go_ret
      rw [HR.out]
      exact ⟨rfl, hB.out⟩
theorem ln_Empty (A : Option Addr) (c : Nat) (l : List S40) (w : World) (hr : Kd.C k40 w A l.length l) (hl : l.length ≤ 100000) :
    Calls Try.prog 11 #[.slice A l.length c] w fun e w' => e = .returned (.int .i64 (ln_emr l)) ∧ Below w.heap.size w w' := by
  go_enter Try.func11, Try.ntmps11
  go_wp2_with (go_at_call 25; refine (ln_IndexFunc _ _ _ _ hr hl).mono ?_; rintro e w2 ⟨rfl, hB2⟩; have HB2 := Aside0.mk hB2; clear hB2)
  go_ret
  exact ⟨rfl, HB2.out⟩
def ln_txt (b : List Int) (x y : Int) : ByteArray := if 0 ≤ x ∧ x ≤ y ∧ y ≤ (b.length : Int) then strOfNums ((b.take y.toNat).drop x.toNat) else ⟨#[]⟩
set_option maxHeartbeats 1000000 in
theorem ln_Text (A : Option Addr) (c : Nat) (b : List Int) (x y z : Int) (w : World) (hA : Kd.C (Kd.int .u8) w A b.length b) (hc : b.length ≤ c) :
    Calls Try.prog 12 #[.slice A b.length c, .agg #[.int .i64 x, .int .i64 y, .int .i64 z]] w fun e w' => e = .returned (.string (ln_txt b x y)) ∧ Below w.heap.size w w' := by
  have hal := below_alloc (Below.refl w.heap.size w) (.cells #[.int .i64 x, .int .i64 y, .int .i64 z] 40)
  have hnew := heap_alloc_new w (.cells #[.int .i64 x, .int .i64 y, .int .i64 z] 40)
  by_cases hin : 0 ≤ x ∧ x ≤ y ∧ y ≤ (b.length : Int)
  · obtain ⟨fr, hfr⟩ : ∃ fr : Nat, x = (fr : Int) := ⟨x.toNat, by omega⟩
    obtain ⟨en, hen⟩ : ∃ en : Nat, y = (en : Int) := ⟨y.toNat, by omega⟩
    subst hfr hen
    have hdec : decide (0 ≤ (fr : Int) ∧ (fr : Int) ≤ (en : Int) ∧ (en : Int) ≤ (b.length : Int)) = true := decide_eq_true hin
    have HT := Aside0.mk (show ln_txt b (fr : Int) (en : Int) = strOfNums ((b.take en).drop fr) from by unfold ln_txt; rw [if_pos hin, Int.toNat_natCast, Int.toNat_natCast])
    rw [HT.out]
    have hlen2 : ((b.take en).drop fr).length = en - fr := by rw [List.length_drop, List.length_take]; omega
    have hle1 : fr ≤ en := by omega
    have hle2 : en ≤ b.length := by omega
    by_cases hcf : c = fr
    · have hef : en = fr := by omega
      subst hef
      subst hcf
      have hcf : c = c := rfl
      have hemp : (b.take c).drop c = [] := List.eq_nil_of_length_eq_zero (by omega)
      go_enter Try.func12, Try.ntmps12
      go_wp2_with (go_at_call 21; refine (callsIn_wide.1 (ln_Within Fence.wide 1 trivial rfl _ _ b.length _)).mono ?_; rw [hdec]; rintro e w2 ⟨rfl, hB2⟩; have hw2 := (hB2.block w.heap.size (by simp)).trans hnew; have hz0 := cell_of_row w2 w.heap.size 0 _ _ _ hw2; have hz1 := cell_of_row w2 w.heap.size 1 _ _ _ hw2; simp at hz0 hz1; have HB2 := Aside0.mk hB2; clear hB2 hw2; have hC2 := Kd.C_mid (Kd.C_below hA (hal.trans (HB2.out.mono (by simp)))) (lo := c) (hi := c) (by omega) (by omega) hc; rw [if_pos hcf, hemp] at hC2; have hcv := Kd.C_string (P := Try.prog) (A := A) (c := 0) Try.underlying22 Try.underlying5 Try.underlying9 hC2; simp only [List.length_nil] at hcv; clear hC2)
      rw [hemp]
      go_ret
      exact ⟨rfl, hal.trans (HB2.out.mono (by simp))⟩
    · go_enter Try.func12, Try.ntmps12
      go_wp2_with (go_at_call 21; refine (callsIn_wide.1 (ln_Within Fence.wide 1 trivial rfl _ _ b.length _)).mono ?_; rw [hdec]; rintro e w2 ⟨rfl, hB2⟩; have hw2 := (hB2.block w.heap.size (by simp)).trans hnew; have hz0 := cell_of_row w2 w.heap.size 0 _ _ _ hw2; have hz1 := cell_of_row w2 w.heap.size 1 _ _ _ hw2; simp at hz0 hz1; have HB2 := Aside0.mk hB2; clear hB2 hw2; have hC2 := Kd.C_mid (Kd.C_below hA (hal.trans (HB2.out.mono (by simp)))) (lo := fr) (hi := en) (by omega) (by omega) hc; rw [if_neg hcf, show (Kd.int .u8).sz = 1 from rfl, Nat.mul_one, hlen2] at hC2; have hcv := Kd.C_string (P := Try.prog) (A := A.map (·.add fr)) (c := c - fr) Try.underlying22 Try.underlying5 Try.underlying9 hC2; clear hC2)
      go_ret
      exact ⟨rfl, hal.trans (HB2.out.mono (by simp))⟩
  · have hdec : decide (0 ≤ x ∧ x ≤ y ∧ y ≤ (b.length : Int)) = false := decide_eq_false hin
    have HT := Aside0.mk (show ln_txt b x y = ⟨#[]⟩ from if_neg hin)
    rw [HT.out]
    go_enter Try.func12, Try.ntmps12
    go_wp2_with (go_at_call 21; refine (callsIn_wide.1 (ln_Within Fence.wide 1 trivial rfl _ _ b.length _)).mono ?_; rw [hdec]; rintro e w2 ⟨rfl, hB2⟩; have HB2 := Aside0.mk hB2; clear hB2)
    go_ret
    exact ⟨rfl, hal.trans (HB2.out.mono (by simp))⟩
end Go.Proofs.Ytckmfmfhhojmfaa.P
