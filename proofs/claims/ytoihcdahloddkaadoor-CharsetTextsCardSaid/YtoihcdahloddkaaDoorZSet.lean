import Derived.Test.YtoihcdahloddkaaDoorZVal
import Derived.Laws.Cover4
import Derived.Laws.RangeAny
namespace Go.Proofs.YtoihcdahloddkaaDoor.P
open Go.RowKit Go.Proofs.YtoihcdahloddkaaDoorW.PrintWords Go.Proofs.YtoihcdahloddkaaDoorW.PrintLast Go.Proofs.YtoihcdahloddkaaDoorW.PrintMore Go.Proofs.YtoihcdahloddkaaDoor.Aids
attribute [-simp] Int.tmod_tmod_of_dvd
set_option linter.unusedVariables false
set_option linter.unusedSimpArgs false
theorem info21 : (Tryd.prog.info? 21).map (fun i => (i.zero, i.size, i.bytes)) = some (some (.int .i32 0), 1, 4) := by kernel_rfl
theorem take_rd (l : List Int) (k : Nat) (h : k < l.length) : l.take (k + 1) = l.take k ++ [rd l (k : Int)] := by
  rw [rd_at l k h, List.take_succ_eq_append_getElem h]
/-- bytes of a narrow charset as a text -/
def txtL (sz : Int) (l : List Int) : ByteArray × Bool := if l.all (fun x => decide (x < sz)) = true then (runesBytes l, true) else (⟨#[]⟩, false)
theorem txt_no {sz : Int} {l : List Int} {k : Nat} (hk : k < l.length) (h : sz ≤ rd l (k : Int)) : txtL sz l = (⟨#[]⟩, false) := by
  unfold txtL
  rw [if_neg]
  intro h1
  have := List.all_eq_true.1 h1 _ (rd_mem l k hk)
  simp at this
  omega
theorem txt_yes {sz : Int} {l : List Int} (h : ∀ j : Nat, j < l.length → rd l (j : Int) < sz) : txtL sz l = (runesBytes l, true) := by
  unfold txtL
  rw [if_pos]
  rw [List.all_eq_true]
  intro x hx
  obtain ⟨i, hi, rfl⟩ := List.getElem_of_mem hx
  have := h i hi
  rw [rd_at l i hi] at this
  simpa using this
theorem run_runes (v : Value) (l : List Int) (W : World) (base : Nat) (ok : Nat → Prop) (hR : Kd.R (Kd.int .i32) 21 W base ok v l) : (convert 60 9 v).run Tryd.prog W = .ok (.string (runesBytes l)) W := by
  obtain ⟨A, c, rfl⟩ := Kd.R_slice hR
  have hC := Kd.reads_of_C (d := (0 : Int)) (h1 := fun _ => rfl) (Kd.R_reads' hR).2.2
  cases A with
  | none =>
    have hl : l = [] := by
      cases l with
      | nil => rfl
      | cons x t => obtain ⟨ad, e, _⟩ := hC.2.2 (by simp); cases e
    subst hl
    exact run_convert_runes_nil W 60 9 21 _ _ Tryd.underlying60 Tryd.underlying21 Tryd.underlying9
  | some ad =>
    have h := run_convert_runes W 60 9 21 ad l.length c l (Nat.le_refl _) Tryd.underlying60 Tryd.underlying21 Tryd.underlying9 (fun j hj => by
      obtain ⟨ad', e, hcell⟩ := hC.2.2 (by omega)
      cases e
      exact hcell j hj)
    rwa [List.take_length] at h
set_option maxHeartbeats 4000000 in
theorem cs_text (A : Option Addr) (c : Nat) (l : List Int) (sz : Int) (w : World) (hC : Kd.C (Kd.int .u8) w A l.length l) (hl : l.length < 1000000) (hb : byte l) :
    Calls Tryd.prog 20 #[.agg #[.int .i32 sz], .slice A l.length c] w fun e w' => e = .returned (.tuple #[.string (txtL sz l).1, .bool (txtL sz l).2]) ∧ Below w.heap.size w w' := by
  have HC := Aside0.mk hC
  have HB := Aside0.mk hb
  clear hC hb
  go_enter Tryd.func20, Tryd.ntmps20
  go_wp2
  go_loopw [6, 11] (fun v6 v11 wr => ∃ k : Nat, k ≤ l.length ∧ v11 = .int .i64 (k : Int) ∧ Aside0 (Kd.R (Kd.int .i32) 21 wr w.heap.size (fun k => k ≠ w.heap.size) v6 (l.take k)) ∧ Aside0 (Below w.heap.size w wr) ∧ Aside0 (wr.heap[w.heap.size]? = some (.cells #[.int .i32 sz] 36 (0, 0))) ∧ Aside0 (∀ j : Nat, j < k → rd l (j : Int) < sz)) (fun _ i _ => l.length - (intOf i).toNat)
  case atStart => exact ⟨0, Nat.zero_le _, rfl, ⟨Kd.R_nil _ _ _ _ _⟩, ⟨below_alloc (Below.refl _ _) _⟩, ⟨heap_alloc_new _ _⟩, ⟨fun j hj => by omega⟩⟩
  case round =>
    obtain ⟨k, hk, rfl, HR, HBl, HBx, HN⟩ := hrel
    have hbx := cell_of_row wr w.heap.size 0 _ _ _ HBx.out
    simp only [List.getElem?_toArray, List.getElem?_cons_zero] at hbx
    by_cases hlt : k < l.length
    · obtain ⟨ad, rfl, hcell⟩ := Kd.at_int (Kd.C_below HC.out HBl.out) (k : Int) (by omega) (by omega)
      rw [Int.toNat_natCast] at hcell
      have hr := rd_byte l HB.out k
      have hw : IntKind.i32.wrap (rd l (k : Int)) = rd l (k : Int) := by rw [IntKind.wrap_i32]; omega
      have t1 : decide ((k : Int) < (l.length : Int)) = true := decide_eq_true (by omega)
      have t2 : decide (k < l.length) = true := decide_eq_true hlt
      by_cases hge : sz ≤ rd l (k : Int)
      · have HT := Aside0.mk (txt_no hlt hge)
        have q1 : decide (sz ≤ rd l (k : Int)) = true := decide_eq_true hge
        clear hge
        go_wp2
        go_ret2
        exact ⟨by rw [HT.out]; rfl, HBl.out⟩
      · have HL := Aside0.mk (show rd l (k : Int) < sz by omega)
        have q1 : decide (sz ≤ rd l (k : Int)) = false := decide_eq_false hge
        have HK := Aside0.mk (take_rd l k hlt)
        have HX := Aside0.mk (blk_lt HBx.out)
        clear hge
        go_wp2_with ((with_reducible refine gate_builtin (b := .append) (xs := #[.tmp 20, .tmp 23]) rfl ?_); at_builtin; refine Kd.R_append (Kd.int .i32) (w0 := w) w.heap.size rfl (.tmp 20) (.tmp 23) 60 21 (.int .i32 0) 4 rfl Tryd.underlying60 info21 rfl (by decide) (by omega) u6 (l.take k) (rd l (k : Int)) [.int .i32 (rd l (k : Int))] (fun k => k ≠ w.heap.size) (fun _ => False) rfl rfl ?aP (fun _ hk => hk.elim) ?aF HR.out HBl.out ?aS ?aL ?_; (case aP => exact rfl); (case aF => exact fun j hj => by have := HX.out; omega); (case aS => exact HBl.out.size); (case aL => rw [List.length_take]; omega); intro v1 w1 ho hb hg hat; have HO := Aside0.mk ho; have HB1 := Aside0.mk hb; have HG := Aside0.mk (blk_grown HBx.out hg (Kd.R_away HR.out (fun _ hk => hk))); clear ho hb hg hat)
        go_roundw
        case measure => simp [intOf]; omega
        case rel => exact ⟨k + 1, by omega, by go_num, ⟨by rw [HK.out]; exact HO.out⟩, HB1, HG, ⟨fun j hj => by
          by_cases e : j = k
          · subst e; exact HL.out
          · exact HN.out j (by omega)⟩⟩
    · have e : k = l.length := by omega
      subst e
      have HT := Aside0.mk (txt_yes HN.out)
      have hR := HR.out
      rw [List.take_length] at hR
      have hcv := run_runes u6 l wr _ _ hR
      have t1 : decide ((l.length : Int) < (l.length : Int)) = false := decide_eq_false (by omega)
      have t2 : decide (l.length < l.length) = false := decide_eq_false (by omega)
      clear hR
      go_wp2
      go_ret2
      exact ⟨by rw [HT.out]; rfl, HBl.out⟩
end Go.Proofs.YtoihcdahloddkaaDoor.P
