import Derived.Test.YtimnfkmjdnmdeaaPx0
import Derived.Laws.EntriesVeiled
namespace Go.Proofs.Ytimnfkmjdnmdeaa.P
open Go.RowKit Go.Proofs.YtimnfkmjdnmdeaaW.PrintWords Go.Proofs.YtimnfkmjdnmdeaaW.PrintLast Go.Proofs.YtimnfkmjdnmdeaaW.PrintMore
attribute [-simp] Int.tmod_tmod_of_dvd
attribute [local go_sem] max2_int min2_int max_two min_two max_three min_three max_four min_four
set_option linter.unusedVariables false
set_option linter.unusedSimpArgs false
def sq_e (x last : Int) : Int := if x < 1 then last else x
def sq_in (r : S32) (n last : Int) : Bool := decide (mn (sq_e r.f0 last) (sq_e r.f1 last) ≤ n) && decide (n ≤ mx (sq_e r.f0 last) (sq_e r.f1 last))
theorem sq_at (x last : Int) (pl : Nat) (w : World) (h : w.cell? ⟨pl, 0, none⟩ = some (.int .i64 last)) : Calls Try.prog 22 #[.int .i64 x, .pointer (some ⟨pl, 0, none⟩)] w fun e w' => e = .returned (.int .i64 (sq_e x last)) ∧ w' = w := by
  go_enter Try.func22, Try.ntmps22
  by_cases hx : x < 1
  · have hb := decide_eq_true hx
    have HR := Aside0.mk (show sq_e x last = last from if_pos hx)
    clear hx
    go_wp2
    go_ret
    rw [HR.out]
    exact ⟨rfl, rfl⟩
  · have hb := decide_eq_false hx
    have HR := Aside0.mk (show sq_e x last = x from if_neg hx)
    clear hx
    go_wp2
    go_ret
    rw [HR.out]
    exact ⟨rfl, rfl⟩
set_option maxHeartbeats 2000000 in
theorem sq_hit (r : S32) (n last : Int) (pa pn pl : Nat) (w : World) (ha : w.cell? ⟨pa, 0, none⟩ = some (.func (.func 22) #[] #[.pointer (some ⟨pl, 0, none⟩)])) (hn : w.cell? ⟨pn, 0, none⟩ = some (.int .i64 n)) (hl : w.cell? ⟨pl, 0, none⟩ = some (.int .i64 last)) :
    Calls Try.prog 24 #[.agg #[.int .i64 r.f0, .int .i64 r.f1], .pointer (some ⟨pa, 0, none⟩), .pointer (some ⟨pn, 0, none⟩)] w fun e w' => e = .returned (.bool (sq_in r n last)) ∧ Below w.heap.size w w' := by
  have al := below_alloc (Below.refl w.heap.size w) (.cells #[.int .i64 r.f0, .int .i64 r.f1] 32)
  have ha2 := (al.cell (p := ⟨pa, 0, none⟩) (World.block_lt_of_cell? w _ ha)).trans ha
  have hn2 := (al.cell (p := ⟨pn, 0, none⟩) (World.block_lt_of_cell? w _ hn)).trans hn
  have hl2 := (al.cell (p := ⟨pl, 0, none⟩) (World.block_lt_of_cell? w _ hl)).trans hl
  go_enter Try.func24, Try.ntmps24
  go_wp2_with fail
  go_quiet ((go_at_call 22; refine Calls.quiet_of_same (sq_at _ last pl _ (by simpa using hl2))))
  have hin : sq_in r n last = (decide (mn (sq_e r.f0 last) (sq_e r.f1 last) ≤ n) && decide (n ≤ mx (sq_e r.f0 last) (sq_e r.f1 last))) := rfl
  generalize sq_e r.f0 last = a at *
  generalize sq_e r.f1 last = b at *
  have hbel := fun m_ : Nat => pw_below_drewN al m_
  have HBEL := Aside0.mk hbel
  clear hbel al ha hn hl ha2 hl2
  by_cases hba : b < a
  · have e1 : mn a b = b := if_pos hba
    have e2 : mx a b = a := by unfold mx; rw [if_neg (by omega)]
    rw [e1, e2] at hin
    have e3 : ¬ a < b := by omega
    clear e1 e2
    by_cases h1 : b ≤ n
    · have d1 := decide_eq_true h1
      by_cases h2 : n ≤ a
      · have d2 := decide_eq_true h2
        rw [d1, d2] at hin
        have HI := Aside0.mk hin
        clear hin
        go_wp2
        go_ret
        exact ⟨by rw [HI.out]; rfl, HBEL.out _⟩
      · have d2 := decide_eq_false h2
        rw [d1, d2] at hin
        have HI := Aside0.mk hin
        clear hin
        go_wp2
        go_ret
        exact ⟨by rw [HI.out]; rfl, HBEL.out _⟩
    · have d1 := decide_eq_false h1
      rw [d1, Bool.false_and] at hin
      have HI := Aside0.mk hin
      clear hin
      go_wp2
      go_ret
      exact ⟨by rw [HI.out]; rfl, HBEL.out _⟩
  · have e1 : mn a b = a := if_neg hba
    have e2 : mx a b = (if a < b then b else a) := rfl
    rw [e1, e2] at hin
    clear e1 e2
    by_cases hab : a < b
    · rw [if_pos hab] at hin
      by_cases h1 : a ≤ n
      · have d1 := decide_eq_true h1
        by_cases h2 : n ≤ b
        · have d2 := decide_eq_true h2
          rw [d1, d2] at hin
          have HI := Aside0.mk hin
          clear hin
          go_wp2
          go_ret
          exact ⟨by rw [HI.out]; rfl, HBEL.out _⟩
        · have d2 := decide_eq_false h2
          rw [d1, d2] at hin
          have HI := Aside0.mk hin
          clear hin
          go_wp2
          go_ret
          exact ⟨by rw [HI.out]; rfl, HBEL.out _⟩
      · have d1 := decide_eq_false h1
        rw [d1, Bool.false_and] at hin
        have HI := Aside0.mk hin
        clear hin
        go_wp2
        go_ret
        exact ⟨by rw [HI.out]; rfl, HBEL.out _⟩
    · rw [if_neg hab] at hin
      by_cases h1 : a ≤ n
      · have d1 := decide_eq_true h1
        by_cases h2 : n ≤ a
        · have d2 := decide_eq_true h2
          rw [d1, d2] at hin
          have HI := Aside0.mk hin
          clear hin
          go_wp2
          go_ret
          exact ⟨by rw [HI.out]; rfl, HBEL.out _⟩
        · have d2 := decide_eq_false h2
          rw [d1, d2] at hin
          have HI := Aside0.mk hin
          clear hin
          go_wp2
          go_ret
          exact ⟨by rw [HI.out]; rfl, HBEL.out _⟩
      · have d1 := decide_eq_false h1
        rw [d1, Bool.false_and] at hin
        have HI := Aside0.mk hin
        clear hin
        go_wp2
        go_ret
        exact ⟨by rw [HI.out]; rfl, HBEL.out _⟩
theorem sq_klt (k m : Nat) (h : k < m) : decide ((k : Int) < (m : Int)) = true := decide_eq_true (by omega)
theorem sq_kge (k m : Nat) (h : ¬ k < m) : decide ((k : Int) < (m : Int)) = false := decide_eq_false (by omega)
/-- the first range that a number is in -/
def sq_ix (n last : Int) : List S32 → Nat
  | [] => 0
  | x :: t => if sq_in x n last = true then 0 else sq_ix n last t + 1
theorem sq_ix_at (n last : Int) : ∀ (l : List S32) (k : Nat), k ≤ l.length → (∀ j : Nat, j < k → sq_in (rd_T32 l (j : Int)) n last = false) → (k = l.length ∨ sq_in (rd_T32 l (k : Int)) n last = true) → sq_ix n last l = k
  | [], k, h, _, _ => by simp at h; subst h; rfl
  | x :: t, 0, _, _, h => by
    rcases h with h | h
    · simp at h
    · show (if sq_in x n last = true then 0 else sq_ix n last t + 1) = 0
      exact if_pos h
  | x :: t, k + 1, hk, hn, h => by
    have h0 : sq_in x n last = false := hn 0 (by omega)
    show (if sq_in x n last = true then 0 else sq_ix n last t + 1) = k + 1
    rw [if_neg (by rw [h0]; decide), sq_ix_at n last t k (by simp at hk; omega) (fun j hj => hn (j + 1) (by omega)) (h.elim (fun h => .inl (by simp at h; exact h)) (fun h => .inr h))]
def sq_ixr (n last : Int) (l : List S32) : Int := if sq_ix n last l < l.length then (sq_ix n last l : Int) else -1
set_option maxHeartbeats 2000000 in
theorem sq_IndexFunc (A : Option Addr) (c : Nat) (l : List S32) (n last : Int) (pa pn pl : Nat) (w : World) (hr : Kd.C k32 w A l.length l) (hl : l.length ≤ 100000) (ha : w.cell? ⟨pa, 0, none⟩ = some (.func (.func 22) #[] #[.pointer (some ⟨pl, 0, none⟩)])) (hn : w.cell? ⟨pn, 0, none⟩ = some (.int .i64 n)) (hla : w.cell? ⟨pl, 0, none⟩ = some (.int .i64 last)) :
    Calls Try.prog 33 #[.slice A l.length c, .func (.func 24) #[] #[.pointer (some ⟨pa, 0, none⟩), .pointer (some ⟨pn, 0, none⟩)]] w fun e w' => e = .returned (.int .i64 (sq_ixr n last l)) ∧ Below w.heap.size w w' := by
  have la := World.block_lt_of_cell? w _ ha
  have ln := World.block_lt_of_cell? w _ hn
  have ll := World.block_lt_of_cell? w _ hla
  go_enter Try.func33, Try.ntmps33
  go_wp2
  go_loopw [8] (fun i wr => ∃ k : Nat, k ≤ l.length ∧ i = .int .i64 (k : Int) ∧ Aside0 (Below w.heap.size w wr) ∧ Aside0 (∀ j : Nat, j < k → sq_in (rd_T32 l (j : Int)) n last = false)) (fun i _ => l.length - (intOf i).toNat)
  case atStart => exact ⟨0, Nat.zero_le _, rfl, ⟨Below.refl _ _⟩, ⟨fun j hj => by omega⟩⟩
  case round =>
    obtain ⟨k, hk, rfl, hB, hno⟩ := hrel
    have HA := Aside0.mk ((hB.out.cell la).trans ha)
    have HN := Aside0.mk ((hB.out.cell ln).trans hn)
    have HL := Aside0.mk ((hB.out.cell ll).trans hla)
    by_cases hlt : k < l.length
    · have hb := sq_klt k _ hlt
      obtain ⟨ad, e1, hx0, hx1⟩ := at_T32 (Kd.C_below hr hB.out) (k : Int) (by omega) (by omega)
      cases e1
      simp only [Int.toNat_natCast] at hx0 hx1
      cases hv : sq_in (rd_T32 l (k : Int)) n last with
      | true =>
        have HV := Aside0.mk hv
        have HR := Aside0.mk (show sq_ixr n last l = (k : Int) from by unfold sq_ixr; rw [sq_ix_at n last l k hk hno.out (.inr hv), if_pos hlt])
        clear hv
        go_wp2_with (go_at_call 24; refine (sq_hit (rd_T32 l (k : Int)) n last pa pn pl _ HA.out HN.out HL.out).mono ?_; rw [HV.out]; rintro e w2 ⟨rfl, hB2⟩; have HB2 := Aside0.mk hB2; clear hB2)
        go_ret
        rw [HR.out]
        exact ⟨rfl, hB.out.trans (HB2.out.mono hB.out.size)⟩
      | false =>
        have HV := Aside0.mk hv
        clear hv
        go_wp2_with (go_at_call 24; refine (sq_hit (rd_T32 l (k : Int)) n last pa pn pl _ HA.out HN.out HL.out).mono ?_; rw [HV.out]; rintro e w2 ⟨rfl, hB2⟩; have HB2 := Aside0.mk hB2; clear hB2)
        go_roundw
        case rel => exact ⟨k + 1, by omega, by go_num, ⟨hB.out.trans (HB2.out.mono hB.out.size)⟩, ⟨fun j hj => by
          by_cases e : j = k
          · subst e; exact HV.out
          · exact hno.out j (by omega)⟩⟩
        case measure => simp [intOf]; omega
    · have hb := sq_kge k _ hlt
      have HR := Aside0.mk (show sq_ixr n last l = -1 from by unfold sq_ixr; rw [sq_ix_at n last l k hk hno.out (.inl (by omega)), if_neg hlt])
      go_wp2
      go_ret
      rw [HR.out]
      exact ⟨rfl, hB.out⟩
theorem sq_ContainsFunc (A : Option Addr) (c : Nat) (l : List S32) (n last : Int) (pa pn pl : Nat) (w : World) (hr : Kd.C k32 w A l.length l) (hl : l.length ≤ 100000) (ha : w.cell? ⟨pa, 0, none⟩ = some (.func (.func 22) #[] #[.pointer (some ⟨pl, 0, none⟩)])) (hn : w.cell? ⟨pn, 0, none⟩ = some (.int .i64 n)) (hla : w.cell? ⟨pl, 0, none⟩ = some (.int .i64 last)) :
    Calls Try.prog 23 #[.slice A l.length c, .func (.func 24) #[] #[.pointer (some ⟨pa, 0, none⟩), .pointer (some ⟨pn, 0, none⟩)]] w fun e w' => e = .returned (.bool (decide (0 ≤ sq_ixr n last l))) ∧ Below w.heap.size w w' := by
  go_enter Try.func23, Try.ntmps23
  go_wp2_with (go_at_call 33; refine (sq_IndexFunc A c l n last pa pn pl _ hr hl ha hn hla).mono ?_; rintro e w2 ⟨rfl, hB2⟩; have HB2 := Aside0.mk hB2; clear hB2)
  go_ret
  exact ⟨rfl, HB2.out⟩
def sq_has (l : List S32) (n last : Int) : Bool := l.any fun r => sq_in r n last
theorem sq_ixr_has (n last : Int) (l : List S32) : decide (0 ≤ sq_ixr n last l) = sq_has l n last := by
  have key : ∀ l : List S32, (sq_ix n last l < l.length ↔ sq_has l n last = true) := by
    intro l
    induction l with
    | nil => simp [sq_ix, sq_has]
    | cons x t ih =>
      unfold sq_has at *
      show (if sq_in x n last = true then 0 else sq_ix n last t + 1) < _ ↔ _
      by_cases h : sq_in x n last = true
      · rw [if_pos h]; simp [h]
      · rw [if_neg h]
        simp only [List.length_cons, Nat.add_lt_add_iff_right, List.any_cons, Bool.or_eq_true, h, Bool.false_eq_true, false_or]
        exact ih
  unfold sq_ixr
  by_cases h : sq_ix n last l < l.length
  · rw [if_pos h, (key l).1 h]; exact decide_eq_true (by omega)
  · rw [if_neg h]
    have : sq_has l n last = false := by
      cases hh : sq_has l n last with
      | false => rfl
      | true => exact absurd ((key l).2 hh) h
    rw [this]; rfl
set_option maxHeartbeats 1000000 in
theorem sq_Has (A : Option Addr) (c : Nat) (l : List S32) (n last : Int) (w : World) (hr : Kd.C k32 w A l.length l) (hl : l.length ≤ 100000) :
    Calls Try.prog 10 #[.slice A l.length c, .int .i64 n, .int .i64 last] w fun e w' => e = .returned (.bool (sq_has l n last)) ∧ Below w.heap.size w w' := by
  have al1 := below_alloc (Below.refl w.heap.size w) (.cells #[.int .i64 n] 3)
  have al2 := below_alloc al1 (.cells #[.int .i64 last] 3)
  have al3 := below_alloc al2 (.cells #[.func (.func 22) #[] #[.pointer (some ⟨w.heap.size + 1, 0, none⟩)]] 52)
  have hd := sq_ixr_has n last l
  have hfn : ∀ (fn : Fn) (first cap : Array Value) (w : World), (Instr.makeFunc fn first cap).run Try.prog w = .ok (.func fn first cap) w := fun _ _ _ _ => rfl
  go_enter Try.func10, Try.ntmps10
  go_wp2_with fail
  have n1 := heap_alloc_new w (.cells #[.int .i64 n] 3)
  have n2 := heap_alloc_new (w.alloc (.cells #[.int .i64 n] 3)) (.cells #[.int .i64 last] 3)
  have n3 := heap_alloc_new ((w.alloc (.cells #[.int .i64 n] 3)).alloc (.cells #[.int .i64 last] 3)) (.cells #[.func (.func 22) #[] #[.pointer (some ⟨w.heap.size + 1, 0, none⟩)]] 52)
  rw [show (w.alloc (.cells #[.int .i64 n] 3)).heap.size = w.heap.size + 1 by simp] at n2
  rw [show ((w.alloc (.cells #[.int .i64 n] 3)).alloc (.cells #[.int .i64 last] 3)).heap.size = w.heap.size + 1 + 1 by simp] at n3
  have m1 := ((below_alloc (below_alloc (Below.refl _ _) (.cells #[.int .i64 last] 3)) (.cells #[.func (.func 22) #[] #[.pointer (some ⟨w.heap.size + 1, 0, none⟩)]] 52)).block w.heap.size (by simp)).trans n1
  have m2 := ((below_alloc (Below.refl _ _) (.cells #[.func (.func 22) #[] #[.pointer (some ⟨w.heap.size + 1, 0, none⟩)]] 52)).block (w.heap.size + 1) (by simp)).trans n2
  have c1 := cell_of_row _ w.heap.size 0 _ _ _ m1
  have c2 := cell_of_row _ (w.heap.size + 1) 0 _ _ _ m2
  have c3 := cell_of_row _ (w.heap.size + 1 + 1) 0 _ _ _ n3
  simp only [List.getElem?_toArray, List.getElem?_cons_zero] at c1 c2 c3
  refine (sq_ContainsFunc A c l n last (w.heap.size + 1 + 1) w.heap.size (w.heap.size + 1) _ (Kd.C_below hr al3) hl c3 c1 c2).mono ?_
  rw [hd]
  rintro e w4 ⟨rfl, hB4⟩
  have HB4 := Aside0.mk hB4
  clear hB4
  go_wp2
  go_ret
  exact ⟨rfl, al3.trans (HB4.out.mono (by simp; omega))⟩
end Go.Proofs.Ytimnfkmjdnmdeaa.P
