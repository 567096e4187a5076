import Derived.Test.YtimnfkmjdnmdeaaZHas
namespace Go.Proofs.Ytimnfkmjdnmdeaa.P
open Go.RowKit Go.Proofs.YtimnfkmjdnmdeaaW.PrintWords Go.Proofs.YtimnfkmjdnmdeaaW.PrintLast Go.Proofs.YtimnfkmjdnmdeaaW.PrintMore
attribute [-simp] Int.tmod_tmod_of_dvd
set_option linter.unusedVariables false
set_option linter.unusedSimpArgs false
theorem sq_not (x last : Int) (pb pl : Nat) (A : Option Addr) (c : Nat) (l : List S32) (w : World) (hb : w.cell? ⟨pb, 0, none⟩ = some (.slice A l.length c)) (hl : w.cell? ⟨pl, 0, none⟩ = some (.int .i64 last)) (hr : Kd.C k32 w A l.length l) (hll : l.length ≤ 100000) :
    Calls Try.prog 27 #[.int .i64 x, .pointer (some ⟨pb, 0, none⟩), .pointer (some ⟨pl, 0, none⟩)] w fun e w' => e = .returned (.bool (!sq_has l x last)) ∧ Below w.heap.size w w' := by
  go_enter Try.func27, Try.ntmps27
  go_wp2_with (go_at_call 10; refine (sq_Has A c l x last _ hr hll).mono ?_; rintro e w2 ⟨rfl, hB2⟩; have HB2 := Aside0.mk hB2; clear hB2)
  go_ret
  exact ⟨rfl, HB2.out⟩
/-- the first number that is not in the set -/
def sq_nx (l : List S32) (last : Int) : List Int → Nat
  | [] => 0
  | x :: t => if sq_has l x last = false then 0 else sq_nx l last t + 1
theorem sq_nx_at (l : List S32) (last : Int) : ∀ (xs : List Int) (k : Nat), k ≤ xs.length → (∀ j : Nat, j < k → sq_has l (rd xs (j : Int)) last = true) → (k = xs.length ∨ sq_has l (rd xs (k : Int)) last = false) → sq_nx l last xs = k
  | [], k, h, _, _ => by simp at h; subst h; rfl
  | x :: t, 0, _, _, h => by
    rcases h with h | h
    · simp at h
    · show (if sq_has l x last = false then 0 else sq_nx l last t + 1) = 0
      exact if_pos h
  | x :: t, k + 1, hk, hn, h => by
    have h0 : sq_has l x last = true := hn 0 (by omega)
    show (if sq_has l x last = false then 0 else sq_nx l last t + 1) = k + 1
    rw [if_neg (by rw [h0]; decide), sq_nx_at l last t k (by simp at hk; omega) (fun j hj => hn (j + 1) (by omega)) (h.elim (fun h => .inl (by simp at h; exact h)) (fun h => .inr h))]
def sq_nxr (l : List S32) (last : Int) (xs : List Int) : Int := if sq_nx l last xs < xs.length then (sq_nx l last xs : Int) else -1
set_option maxHeartbeats 2000000 in
theorem sq_IndexInt (S : Option Addr) (cs : Nat) (xs : List Int) (A : Option Addr) (c : Nat) (l : List S32) (last : Int) (pb pl : Nat) (w : World) (hx : Kd.C (Kd.int .i64) w S xs.length xs) (hxl : xs.length ≤ 100000) (hb : w.cell? ⟨pb, 0, none⟩ = some (.slice A l.length c)) (hl : w.cell? ⟨pl, 0, none⟩ = some (.int .i64 last)) (hr : Kd.C k32 w A l.length l) (hll : l.length ≤ 100000) :
    Calls Try.prog 34 #[.slice S xs.length cs, .func (.func 27) #[] #[.pointer (some ⟨pb, 0, none⟩), .pointer (some ⟨pl, 0, none⟩)]] w fun e w' => e = .returned (.int .i64 (sq_nxr l last xs)) ∧ Below w.heap.size w w' := by
  have lb := World.block_lt_of_cell? w _ hb
  have ll := World.block_lt_of_cell? w _ hl
  go_enter Try.func34, Try.ntmps34
  go_wp2
  go_loopw [8] (fun i wr => ∃ k : Nat, k ≤ xs.length ∧ i = .int .i64 (k : Int) ∧ Aside0 (Below w.heap.size w wr) ∧ Aside0 (∀ j : Nat, j < k → sq_has l (rd xs (j : Int)) last = true)) (fun i _ => xs.length - (intOf i).toNat)
  case atStart => exact ⟨0, Nat.zero_le _, rfl, ⟨Below.refl _ _⟩, ⟨fun j hj => by omega⟩⟩
  case round =>
    obtain ⟨k, hk, rfl, hB, hno⟩ := hrel
    have HB := Aside0.mk ((hB.out.cell lb).trans hb)
    have HL := Aside0.mk ((hB.out.cell ll).trans hl)
    have HC := Aside0.mk (Kd.C_below hr hB.out)
    by_cases hlt : k < xs.length
    · have hbb := sq_klt k _ hlt
      obtain ⟨ad, e1, hx0⟩ := Kd.at_int (Kd.C_below hx hB.out) (k : Int) (by omega) (by omega)
      cases e1
      simp only [Int.toNat_natCast] at hx0
      cases hv : sq_has l (rd xs (k : Int)) last with
      | false =>
        have HV := Aside0.mk (show (!sq_has l (rd xs (k : Int)) last) = true from by rw [hv]; rfl)
        have HR := Aside0.mk (show sq_nxr l last xs = (k : Int) from by unfold sq_nxr; rw [sq_nx_at l last xs k hk hno.out (.inr hv), if_pos hlt])
        clear hv
        go_wp2_with (go_at_call 27; refine (sq_not (rd xs (k : Int)) last pb pl A c l _ HB.out HL.out HC.out hll).mono ?_; rw [HV.out]; rintro e w2 ⟨rfl, hB2⟩; have HB2 := Aside0.mk hB2; clear hB2)
        go_ret
        rw [HR.out]
        exact ⟨rfl, hB.out.trans (HB2.out.mono hB.out.size)⟩
      | true =>
        have HV := Aside0.mk (show (!sq_has l (rd xs (k : Int)) last) = false from by rw [hv]; rfl)
        have HV2 := Aside0.mk hv
        clear hv
        go_wp2_with (go_at_call 27; refine (sq_not (rd xs (k : Int)) last pb pl A c l _ HB.out HL.out HC.out hll).mono ?_; rw [HV.out]; rintro e w2 ⟨rfl, hB2⟩; have HB2 := Aside0.mk hB2; clear hB2)
        go_roundw
        case rel => exact ⟨k + 1, by omega, by go_num, ⟨hB.out.trans (HB2.out.mono hB.out.size)⟩, ⟨fun j hj => by
          by_cases e : j = k
          · subst e; exact HV2.out
          · exact hno.out j (by omega)⟩⟩
        case measure => simp [intOf]; omega
    · have hbb := sq_kge k _ hlt
      have HR := Aside0.mk (show sq_nxr l last xs = -1 from by unfold sq_nxr; rw [sq_nx_at l last xs k hk hno.out (.inl (by omega)), if_neg hlt])
      go_wp2
      go_ret
      rw [HR.out]
      exact ⟨rfl, hB.out⟩
theorem infoI : (Try.prog.info? 3).map (fun i => (i.zero, i.size, i.bytes)) = some (some (.int .i64 0), 1, 8) := by kernel_rfl
set_option maxHeartbeats 1000000 in
theorem sq_Clone (ad : Addr) (c : Nat) (xs : List Int) (w : World) (hx : Kd.C (Kd.int .i64) w (some ad) xs.length xs) (hxl : xs.length ≤ 100000) :
    Calls Try.prog 26 #[.slice (some ad) xs.length c] w fun e w' => ∃ v, e = .returned v ∧ Kd.R (Kd.int .i64) 3 w' w.heap.size (fun _ => True) v xs ∧ Below w.heap.size w w' := by
  have heq : ∀ w : World, (binOp BinOp.eql 22 (.slice (some ad) xs.length c) (.slice none 0 0)).run Try.prog w = .ok (.bool false) w := fun w => by
    first | rfl | (simp [binOp, Try.underlying22, run_underlying Try.underlying22]; done) | kernel_rfl
  go_enter Try.func26, Try.ntmps26
  go_wp2_with ((with_reducible refine gate_builtin (b := .append) (xs := #[.tmp 5, .tmp 6]) rfl ?_); at_builtin; refine Kd.R_append_rows (Kd.int .i64) (w0 := w) w.heap.size rfl (.tmp 5) (.tmp 6) 22 3 (.int .i64 0) 8 rfl Try.underlying22 infoI rfl (by decide) (by omega) (.slice (some ⟨w.heap.size, 0, none⟩) 0 0) [] xs _ _ _ (fun _ => True) (fun _ => False) rfl rfl ?aO ?aR (fun _ _ h => h) (fun _ h => h.elim) ?aF ?aB ?aS ?aL ?_; (case aO => exact Kd.R_of_own ⟨rfl, .inr ⟨w.heap.size, 0, #[], rfl, Nat.le_refl _, heap_alloc_new _ _, Nat.le_refl _, by decide, rfl, rfl⟩⟩ (fun _ _ => trivial)); (case aR => exact Kd.C_alloc hx _); (case aF => exact fun _ _ => trivial); (case aB => exact below_alloc (Below.refl _ _) _); (case aS => simp); (case aL => simp; omega); intro v2 w2 ho2 hb2 hg2 hat2; obtain ⟨A2, cc2, rfl⟩ := Kd.R_slice ho2; have HO2 := Aside0.mk ho2; have HB2 := Aside0.mk hb2; clear ho2 hb2 hg2 hat2)
  go_ret
  exact ⟨_, rfl, by have := HO2.out; simpa using this, HB2.out⟩
end Go.Proofs.Ytimnfkmjdnmdeaa.P
