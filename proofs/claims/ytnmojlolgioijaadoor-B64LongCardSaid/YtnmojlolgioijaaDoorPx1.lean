-- Written by a program of this session (wip/tools/mk.sh) for this claim: it runs the kit's print with contracts of our own. Lean checks it.
import Derived.Test.YtnmojlolgioijaaDoorPx0
namespace Go.Proofs.YtnmojlolgioijaaDoor.P
open Go.RowKit Go.Proofs.YtnmojlolgioijaaDoorW.PrintWords Go.Proofs.YtnmojlolgioijaaDoorW.PrintLast Go.Proofs.YtnmojlolgioijaaDoorW.PrintMore
attribute [-simp] Int.tmod_tmod_of_dvd
attribute [local go_sem] max2_int min2_int max_two min_two max_three min_three max_four min_four   -- for this text's walks alone
set_option linter.unusedVariables false
set_option linter.unusedSimpArgs false

/-! ### b64_Encode: function 9 -/
def b64_ok (po pc pw : Nat) (k : Nat) : Prop := k ≠ po ∧ k ≠ pc ∧ k ≠ pw
/-- what the closure's three variables hold, and that they are apart -/
structure b64_St (w0 W : World) (po pc pw : Nat) (v : Value) (L : List Int) (col width : Int) : Prop where
  row : Kd.R (Kd.int .u8) 5 W w0.heap.size (b64_ok po pc pw) v L
  out : W.heap[po]? = some (.cells #[v] 22 (0, 0))
  colm : W.heap[pc]? = some (.cells #[.int .i64 col] 3 (0, 0))
  wid : W.heap[pw]? = some (.cells #[.int .i64 width] 3 (0, 0))
  below : Below w0.heap.size w0 W
def b64_putL (width : Int) (L : List Int) (col : Int) (c : Int) : List Int := if wrap64 (col + 1) = width then L ++ [c] ++ [13, 10] else L ++ [c]
def b64_putC (width : Int) (col : Int) : Int := if wrap64 (col + 1) = width then 0 else wrap64 (col + 1)
theorem b64_two {w : World} {po pc pw : Nat} (e1 : po ≠ pc) (e2 : po ≠ pw) (e3 : pc ≠ pw) {a b z : Value} (x y : Value) (o1 : w.heap[po]? = some (.cells #[a] 22 (0, 0))) (o2 : w.heap[pc]? = some (.cells #[b] 3 (0, 0))) (o3 : w.heap[pw]? = some (.cells #[z] 3 (0, 0))) :
    ((w.setCell ⟨po, 0, none⟩ x).setCell ⟨pc, 0, none⟩ y).heap[po]? = some (.cells #[x] 22 (0, 0)) ∧ ((w.setCell ⟨po, 0, none⟩ x).setCell ⟨pc, 0, none⟩ y).heap[pc]? = some (.cells #[y] 3 (0, 0)) ∧ ((w.setCell ⟨po, 0, none⟩ x).setCell ⟨pc, 0, none⟩ y).heap[pw]? = some (.cells #[z] 3 (0, 0)) := by
  refine ⟨(heap_setCell_other _ _ po _ e1).trans (heap_setCell_same w po 0 #[a] 22 x o1), heap_setCell_same _ pc 0 #[b] 3 y ((heap_setCell_other _ _ pc _ (Ne.symm e1)).trans o2), (heap_setCell_other _ _ pw _ (Ne.symm e3)).trans ((heap_setCell_other _ _ pw _ (Ne.symm e2)).trans o3)⟩
theorem b64_alloc {w : World} {g : Nat} {o : Obj} (u : Obj) (h : w.heap[g]? = some o) : (w.alloc u).heap[g]? = some o := ((below_alloc (Below.refl _ _) u).block g (blk_lt h)).trans h
set_option maxHeartbeats 2000000 in
theorem b64_put (w0 W : World) (po pc pw : Nat) (h1 : w0.heap.size ≤ po) (h2 : w0.heap.size ≤ pc) (h3 : w0.heap.size ≤ pw) (e1 : po ≠ pc) (e2 : po ≠ pw) (e3 : pc ≠ pw) (v : Value) (L : List Int) (col width c : Int) (hl : L.length < 1000000) (hs : b64_St w0 W po pc pw v L col width) :
    Calls Tryd.prog 15 #[.int .u8 c, .pointer (some ⟨po, 0, none⟩), .pointer (some ⟨pc, 0, none⟩), .pointer (some ⟨pw, 0, none⟩)] W fun e W' => e = .returned (.tuple #[]) ∧ ∃ v', b64_St w0 W' po pc pw v' (b64_putL width L col c) (b64_putC width col) width := by
  have info5 : (Tryd.prog.info? 5).map (fun i => (i.zero, i.size, i.bytes)) = some (some (.int .u8 0), 1, 1) := by kernel_rfl
  have hpo := cell_of_row W po 0 _ _ _ hs.out
  have hpc := cell_of_row W pc 0 _ _ _ hs.colm
  have hpw := cell_of_row W pw 0 _ _ _ hs.wid
  have fpo := frozen_of_row W po 0 _ _ hs.out
  have fpc := frozen_of_row W pc 0 _ _ hs.colm
  simp only [List.getElem?_toArray, List.getElem?_cons_zero] at hpo hpc hpw
  have lpo := blk_lt hs.out
  have lpc := blk_lt hs.colm
  have lpw := blk_lt hs.wid
  have HS := Aside0.mk hs
  clear hs
  go_enter Tryd.func15, Tryd.ntmps15
  by_cases hw : wrap64 (col + 1) = width
  · have hwb : (wrap64 (col + 1) == width) = true := beq_iff_eq.mpr hw
    have HW := Aside0.mk hw
    clear hw
    go_wp2_with (first | ((with_reducible refine gate_builtin (b := .append) (xs := #[.tmp 5, .tmp 7]) rfl ?_); at_builtin; refine Kd.R_append (Kd.int .u8) (w0 := w0) w0.heap.size rfl (.tmp 5) (.tmp 7) 22 5 (.int .u8 0) 1 rfl Tryd.underlying22 info5 rfl (by decide) (by omega) v L c [.int .u8 c] (b64_ok po pc pw) (fun _ => False) rfl rfl ?aP (fun _ hk => hk.elim) ?aF HS.out.row HS.out.below ?aS ?aL ?_; (case aP => exact rfl); (case aF => exact (fun k hk => ⟨by omega, by omega, by omega⟩)); (case aS => exact HS.out.below.size); (case aL => omega); intro v1 w1 ho hb hg hat; obtain ⟨A1, cc1, rfl⟩ := Kd.R_slice ho; rw [show (L ++ [c]).length = L.length + 1 from by simp] at ho; have lw := hg.size; have o1 := blk_grown HS.out.out hg (Kd.R_away HS.out.row (fun _ hk => hk.1)); have o2 := blk_grown HS.out.colm hg (Kd.R_away HS.out.row (fun _ hk => hk.2.1)); have o3 := blk_grown HS.out.wid hg (Kd.R_away HS.out.row (fun _ hk => hk.2.2)); have O1 := Aside0.mk o1; have O2 := Aside0.mk o2; have O3 := Aside0.mk o3; have HO := Aside0.mk ho; have HB := Aside0.mk hb; have hpo := cell_of_row w1 po 0 _ _ _ o1; have hpc := cell_of_row w1 pc 0 _ _ _ o2; have hpw := cell_of_row w1 pw 0 _ _ _ o3; have fpo := frozen_of_row w1 po 0 _ _ o1; have fpc := frozen_of_row w1 pc 0 _ _ o2; simp only [List.getElem?_toArray, List.getElem?_cons_zero] at hpo hpc hpw; clear o1 o2 o3 ho hb hg hat) | ((with_reducible refine gate_builtin (b := .append) (xs := #[.tmp 14, .tmp 15]) rfl ?_); at_builtin; refine Kd.R_append_rows (Kd.int .u8) (w0 := w0) w0.heap.size rfl (.tmp 14) (.tmp 15) 22 5 (.int .u8 0) 1 rfl Tryd.underlying22 info5 rfl (by decide) (by omega) (.slice A1 (L.length + 1) cc1) (L ++ [c]) [13, 10] _ _ _ (b64_ok po pc pw) (fun _ => False) rfl rfl ?aO ?aR (fun _ _ h => h) (fun _ h => h.elim) ?aF ?aB ?aS ?aL ?_; (case aR => exact Aids.const_C [13, 10] (by decide) (by simpa using heap_alloc_new ((w1.setCell ⟨po, 0, none⟩ (.slice A1 (L.length + 1) cc1)).setCell ⟨pc, 0, none⟩ (.int .i64 (wrap64 (col + 1)))) (.cells #[.int .u8 13, .int .u8 10] 5))); (case aO => exact Kd.R_alloc (Kd.R_far (Kd.R_far HO.out (fun _ hk => hk.1) _) (fun _ hk => hk.2.1) _) _); (case aB => exact below_alloc ((HB.out.setCell (p := ⟨po, 0, none⟩) h1 _).setCell (p := ⟨pc, 0, none⟩) h2 _) _); (case aF => exact (fun k hk => by simp at hk; exact ⟨by omega, by omega, by omega⟩)); (case aS => exact below_size (below_alloc ((HB.out.setCell (p := ⟨po, 0, none⟩) h1 _).setCell (p := ⟨pc, 0, none⟩) h2 _) _)); (case aL => simp; omega); intro v2 w2 ho2 hb2 hg2 hat2; obtain ⟨A2, cc2, rfl⟩ := Kd.R_slice ho2; have tw := b64_two e1 e2 e3 (.slice A1 (L.length + 1) cc1) (.int .i64 (wrap64 (col + 1))) O1.out O2.out O3.out; have ro := Kd.R_alloc (Kd.R_far (Kd.R_far HO.out (p := ⟨po, 0, none⟩) (fun _ hk => hk.1) (.slice A1 (L.length + 1) cc1)) (p := ⟨pc, 0, none⟩) (fun _ hk => hk.2.1) (.int .i64 (wrap64 (col + 1)))) (.cells #[.int .u8 13, .int .u8 10] 5); have p1 := blk_grown (b64_alloc (.cells #[.int .u8 13, .int .u8 10] 5) tw.1) hg2 (Kd.R_away ro (fun _ hk => hk.1)); have p2 := blk_grown (b64_alloc (.cells #[.int .u8 13, .int .u8 10] 5) tw.2.1) hg2 (Kd.R_away ro (fun _ hk => hk.2.1)); have p3 := blk_grown (b64_alloc (.cells #[.int .u8 13, .int .u8 10] 5) tw.2.2) hg2 (Kd.R_away ro (fun _ hk => hk.2.2)); have qpo := cell_of_row w2 po 0 _ _ _ p1; have qpc := cell_of_row w2 pc 0 _ _ _ p2; have gpo := frozen_of_row w2 po 0 _ _ p1; have gpc := frozen_of_row w2 pc 0 _ _ p2; simp only [List.getElem?_toArray, List.getElem?_cons_zero] at qpo qpc; have P1 := Aside0.mk p1; have P2 := Aside0.mk p2; have P3 := Aside0.mk p3; have HO2 := Aside0.mk ho2; have HB2 := Aside0.mk hb2; clear tw ro p1 p2 p3 ho2 hb2 hg2 hat2))
    go_end0
    have tw := b64_two e1 e2 e3 (.slice A2 (L.length + 3) cc2) (.int .i64 0) P1.out P2.out P3.out
    have ho3 := HO2.out
    have hlen : List.length (L ++ [c] ++ [13, 10]) = L.length + 3 := by rw [List.length_append, List.length_append]; rfl
    rw [hlen] at ho3
    refine ⟨rfl, .slice A2 (L.length + 3) cc2, ?_⟩
    unfold b64_putL b64_putC
    rw [if_pos HW.out, if_pos HW.out]
    exact ⟨Kd.R_far (Kd.R_far ho3 (p := ⟨po, 0, none⟩) (fun _ hk => hk.1) _) (p := ⟨pc, 0, none⟩) (fun _ hk => hk.2.1) _, tw.1, tw.2.1, tw.2.2, (HB2.out.setCell (p := ⟨po, 0, none⟩) h1 _).setCell (p := ⟨pc, 0, none⟩) h2 _⟩
  · have hwb : (wrap64 (col + 1) == width) = false := beq_eq_false_iff_ne.mpr hw
    have HW := Aside0.mk hw
    clear hw
    go_wp2_with (first | ((with_reducible refine gate_builtin (b := .append) (xs := #[.tmp 5, .tmp 7]) rfl ?_); at_builtin; refine Kd.R_append (Kd.int .u8) (w0 := w0) w0.heap.size rfl (.tmp 5) (.tmp 7) 22 5 (.int .u8 0) 1 rfl Tryd.underlying22 info5 rfl (by decide) (by omega) v L c [.int .u8 c] (b64_ok po pc pw) (fun _ => False) rfl rfl ?aP (fun _ hk => hk.elim) ?aF HS.out.row HS.out.below ?aS ?aL ?_; (case aP => exact rfl); (case aF => exact (fun k hk => ⟨by omega, by omega, by omega⟩)); (case aS => exact HS.out.below.size); (case aL => omega); intro v1 w1 ho hb hg hat; obtain ⟨A1, cc1, rfl⟩ := Kd.R_slice ho; rw [show (L ++ [c]).length = L.length + 1 from by simp] at ho; have lw := hg.size; have o1 := blk_grown HS.out.out hg (Kd.R_away HS.out.row (fun _ hk => hk.1)); have o2 := blk_grown HS.out.colm hg (Kd.R_away HS.out.row (fun _ hk => hk.2.1)); have o3 := blk_grown HS.out.wid hg (Kd.R_away HS.out.row (fun _ hk => hk.2.2)); have O1 := Aside0.mk o1; have O2 := Aside0.mk o2; have O3 := Aside0.mk o3; have HO := Aside0.mk ho; have HB := Aside0.mk hb; have hpo := cell_of_row w1 po 0 _ _ _ o1; have hpc := cell_of_row w1 pc 0 _ _ _ o2; have hpw := cell_of_row w1 pw 0 _ _ _ o3; have fpo := frozen_of_row w1 po 0 _ _ o1; have fpc := frozen_of_row w1 pc 0 _ _ o2; simp only [List.getElem?_toArray, List.getElem?_cons_zero] at hpo hpc hpw; clear o1 o2 o3 ho hb hg hat) | ((with_reducible refine gate_builtin (b := .append) (xs := #[.tmp 14, .tmp 15]) rfl ?_); at_builtin; refine Kd.R_append_rows (Kd.int .u8) (w0 := w0) w0.heap.size rfl (.tmp 14) (.tmp 15) 22 5 (.int .u8 0) 1 rfl Tryd.underlying22 info5 rfl (by decide) (by omega) (.slice A1 (L.length + 1) cc1) (L ++ [c]) [13, 10] _ _ _ (b64_ok po pc pw) (fun _ => False) rfl rfl ?aO ?aR (fun _ _ h => h) (fun _ h => h.elim) ?aF ?aB ?aS ?aL ?_; (case aR => exact Aids.const_C [13, 10] (by decide) (by simpa using heap_alloc_new ((w1.setCell ⟨po, 0, none⟩ (.slice A1 (L.length + 1) cc1)).setCell ⟨pc, 0, none⟩ (.int .i64 (wrap64 (col + 1)))) (.cells #[.int .u8 13, .int .u8 10] 5))); (case aO => exact Kd.R_alloc (Kd.R_far (Kd.R_far HO.out (fun _ hk => hk.1) _) (fun _ hk => hk.2.1) _) _); (case aB => exact below_alloc ((HB.out.setCell (p := ⟨po, 0, none⟩) h1 _).setCell (p := ⟨pc, 0, none⟩) h2 _) _); (case aF => exact (fun k hk => by simp at hk; exact ⟨by omega, by omega, by omega⟩)); (case aS => exact below_size (below_alloc ((HB.out.setCell (p := ⟨po, 0, none⟩) h1 _).setCell (p := ⟨pc, 0, none⟩) h2 _) _)); (case aL => simp; omega); intro v2 w2 ho2 hb2 hg2 hat2; obtain ⟨A2, cc2, rfl⟩ := Kd.R_slice ho2; have tw := b64_two e1 e2 e3 (.slice A1 (L.length + 1) cc1) (.int .i64 (wrap64 (col + 1))) O1.out O2.out O3.out; have ro := Kd.R_alloc (Kd.R_far (Kd.R_far HO.out (p := ⟨po, 0, none⟩) (fun _ hk => hk.1) (.slice A1 (L.length + 1) cc1)) (p := ⟨pc, 0, none⟩) (fun _ hk => hk.2.1) (.int .i64 (wrap64 (col + 1)))) (.cells #[.int .u8 13, .int .u8 10] 5); have p1 := blk_grown (b64_alloc (.cells #[.int .u8 13, .int .u8 10] 5) tw.1) hg2 (Kd.R_away ro (fun _ hk => hk.1)); have p2 := blk_grown (b64_alloc (.cells #[.int .u8 13, .int .u8 10] 5) tw.2.1) hg2 (Kd.R_away ro (fun _ hk => hk.2.1)); have p3 := blk_grown (b64_alloc (.cells #[.int .u8 13, .int .u8 10] 5) tw.2.2) hg2 (Kd.R_away ro (fun _ hk => hk.2.2)); have qpo := cell_of_row w2 po 0 _ _ _ p1; have qpc := cell_of_row w2 pc 0 _ _ _ p2; have gpo := frozen_of_row w2 po 0 _ _ p1; have gpc := frozen_of_row w2 pc 0 _ _ p2; simp only [List.getElem?_toArray, List.getElem?_cons_zero] at qpo qpc; have P1 := Aside0.mk p1; have P2 := Aside0.mk p2; have P3 := Aside0.mk p3; have HO2 := Aside0.mk ho2; have HB2 := Aside0.mk hb2; clear tw ro p1 p2 p3 ho2 hb2 hg2 hat2))
    go_end0
    have tw := b64_two e1 e2 e3 (.slice A1 (L.length + 1) cc1) (.int .i64 (wrap64 (col + 1))) O1.out O2.out O3.out
    refine ⟨rfl, .slice A1 (L.length + 1) cc1, ?_⟩
    unfold b64_putL b64_putC
    rw [if_neg HW.out, if_neg HW.out]
    exact ⟨Kd.R_far (Kd.R_far HO.out (p := ⟨po, 0, none⟩) (fun _ hk => hk.1) _) (p := ⟨pc, 0, none⟩) (fun _ hk => hk.2.1) _, tw.1, tw.2.1, tw.2.2, (HB.out.setCell (p := ⟨po, 0, none⟩) h1 _).setCell (p := ⟨pc, 0, none⟩) h2 _⟩
def b64_lets : List Int := [65, 66, 67, 68, 69, 70, 71, 72, 73, 74, 75, 76, 77, 78, 79, 80, 81, 82, 83, 84, 85, 86, 87, 88, 89, 90, 97, 98, 99, 100, 101, 102, 103, 104, 105, 106, 107, 108, 109, 110, 111, 112, 113, 114, 115, 116, 117, 118, 119, 120, 121, 122, 48, 49, 50, 51, 52, 53, 54, 55, 56, 57, 43, 47]
def b64_Letters (w : World) : Prop := ∀ j : Nat, j < 64 → w.cell? ⟨0, j, none⟩ = some (.int .u8 (rd b64_lets (j : Int)))
/-- the number that a group's first bytes make, `i` of three told -/
def b64_x (l : List Int) (n : Int) : Nat → Int
  | 0 => 0
  | i + 1 => if (i : Int) < n then Go.bits .or .i64 (wrap64 (b64_x l n i * 256)) (wrap64 (rd l (i : Int))) else wrap64 (b64_x l n i * 256)
/-- the letter at a place of a group -/
def b64_at (x n : Int) (i : Nat) : Int := if (i : Int) > n then 61 else rd b64_lets (Go.bits .and .i64 (x / 2 ^ (6 * (3 - i))) 63)
/-- what stands behind `i` letters of a group -/
def b64_four (width x n : Int) (L : List Int) (col : Int) : Nat → List Int × Int
  | 0 => (L, col)
  | i + 1 => (b64_putL width (b64_four width x n L col i).1 (b64_four width x n L col i).2 (b64_at x n i), b64_putC width (b64_four width x n L col i).2)
/-- all groups of a row, the fuel at least as long -/
def b64_all (width : Int) : Nat → List Int → List Int → Int → List Int × Int
  | 0, _, L, col => (L, col)
  | d + 1, l, L, col => if l = [] then (L, col) else
      let n : Int := mn (l.length : Int) 3
      let s := b64_four width (b64_x l n 3) n L col 4
      b64_all width d (l.drop n.toNat) s.1 s.2
def b64_done (width : Int) (s : List Int × Int) : List Int := if 0 < width then (if 0 < s.2 then s.1 ++ [13, 10] else s.1) else s.1
def b64_lenOf : Value → Nat
  | .slice _ n _ => n
  | _ => 0
theorem b64_wk (k : Nat) (m : Nat) (hm : m ≤ 100) (h : k < m) : wrap64 ((k : Int) + 1) = ((k + 1 : Nat) : Int) := by
  unfold wrap64; omega
theorem b64_klt (k m : Nat) (h : k < m) : decide ((k : Int) < (m : Int)) = true := decide_eq_true (by omega)
theorem b64_kge (k m : Nat) (h : ¬ k < m) : decide ((k : Int) < (m : Int)) = false := decide_eq_false (by omega)
theorem b64_p1 (k : Nat) : 0 ≤ (k : Int) := by omega
theorem b64_q1 {k n m : Nat} (hn : n = min m 3) (h : k < n) : (k : Int) < (m : Int) := by omega
theorem b64_eq3 {k : Nat} (h : k ≤ 3) (h2 : ¬ k < 3) : k = 3 := by omega
theorem b64_and63 (y : Int) : ∃ j : Nat, j < 64 ∧ Go.bits .and .i64 y 63 = (j : Int) := by
  refine ⟨(BitVec.ofInt 64 y &&& BitVec.ofInt 64 63).toNat, ?_, ?_⟩
  · rw [BitVec.toNat_and]; exact Nat.lt_of_le_of_lt Nat.and_le_right (by decide)
  · have h : (BitVec.ofInt 64 y &&& BitVec.ofInt 64 63).toNat < 64 := by rw [BitVec.toNat_and]; exact Nat.lt_of_le_of_lt Nat.and_le_right (by decide)
    show IntKind.i64.wrap _ = _
    rw [IntKind.wrap_i64]
    show ((((BitVec.ofInt 64 y &&& BitVec.ofInt 64 63).toNat : Nat) : Int) + 9223372036854775808) % 18446744073709551616 - 9223372036854775808 = _
    omega
theorem b64_putlen (width : Int) (L : List Int) (col c : Int) : (b64_putL width L col c).length ≤ L.length + 3 := by
  unfold b64_putL; split <;> simp
theorem b64_fourlen (width x n : Int) (L : List Int) (col : Int) : ∀ k, (b64_four width x n L col k).1.length ≤ L.length + 3 * k
  | 0 => by simp [b64_four]
  | k + 1 => by
    have h1 := b64_fourlen width x n L col k
    have h2 := b64_putlen width (b64_four width x n L col k).1 (b64_four width x n L col k).2 (b64_at x n k)
    show (b64_putL _ _ _ _).length ≤ _
    omega
theorem b64_big {a b c d k : Nat} (h1 : a ≤ b + 3 * k) (h2 : b + 12 * c ≤ 12 * d) (h3 : d ≤ 10000) (h4 : k ≤ 4) : a < 1000000 := by omega
theorem b64_fuel (width : Int) : ∀ (d : Nat) (l L : List Int) (col : Int), l.length ≤ d → b64_all width d l L col = b64_all width l.length l L col := by
  intro d
  induction d using Nat.strongRecOn with
  | _ d ih =>
    intro l L col hd
    cases d with
    | zero => rw [show l.length = 0 from by omega]
    | succ d =>
      cases l with
      | nil => rfl
      | cons x t =>
        have hm : ∀ f, b64_all width (f + 1) (x :: t) L col = b64_all width f ((x :: t).drop (mn ((x :: t).length : Int) 3).toNat) (b64_four width (b64_x (x :: t) (mn ((x :: t).length : Int) 3) 3) (mn ((x :: t).length : Int) 3) L col 4).1 (b64_four width (b64_x (x :: t) (mn ((x :: t).length : Int) 3) 3) (mn ((x :: t).length : Int) 3) L col 4).2 := fun f => if_neg (List.cons_ne_nil _ _)
        rw [show (x :: t).length = t.length + 1 from rfl, hm, hm]
        have h1 : 1 ≤ (mn ((x :: t).length : Int) 3).toNat := by
          unfold mn; simp only [List.length_cons]; split <;> omega
        have h2 : ((x :: t).drop (mn ((x :: t).length : Int) 3).toNat).length ≤ t.length := by rw [List.length_drop]; simp only [List.length_cons] at *; omega
        have h3 : t.length ≤ d := by simp only [List.length_cons] at hd; omega
        by_cases hdt : d = t.length
        · rw [hdt]
        · rw [ih d (by omega) _ _ _ (by omega), ih t.length (by omega) _ _ _ h2]
theorem b64_step (width : Int) {l : List Int} {n : Nat} (h0 : l ≠ []) (hn : n = min l.length 3) (L : List Int) (col : Int) : b64_all width l.length l L col = b64_all width (l.drop n).length (l.drop n) (b64_four width (b64_x l (n : Int) 3) (n : Int) L col 4).1 (b64_four width (b64_x l (n : Int) 3) (n : Int) L col 4).2 := by
  have hpos : 0 < l.length := List.length_pos_iff.2 h0
  obtain ⟨d, hd⟩ : ∃ d, l.length = d + 1 := ⟨l.length - 1, by omega⟩
  have hmn : mn (l.length : Int) 3 = (n : Int) := by unfold mn; split <;> omega
  rw [hd]
  refine (if_neg h0).trans ?_
  show b64_all width d (l.drop (mn (l.length : Int) 3).toNat) (b64_four width (b64_x l (mn (l.length : Int) 3) 3) (mn (l.length : Int) 3) L col 4).1 (b64_four width (b64_x l (mn (l.length : Int) 3) 3) (mn (l.length : Int) 3) L col 4).2 = _
  rw [hmn, Int.toNat_natCast]
  exact b64_fuel width d _ _ _ (by rw [List.length_drop]; omega)
set_option maxHeartbeats 2000000 in
theorem b64_Enc (A0 : Option Addr) (c0 : Nat) (l0 : List Int) (width : Int) (w : World) (hL : b64_Letters w) (hr0 : Kd.C (Kd.int .u8) w A0 l0.length l0) (hc0 : l0.length ≤ c0) (hl : l0.length ≤ 10000) :
    Calls Tryd.prog 9 #[.slice A0 l0.length c0, .int .i64 width] w fun e w' => ∃ v0_, e = .returned v0_ ∧ Kd.R (Kd.int .u8) 5 w' w.heap.size (fun _ => True) v0_ (b64_done width (b64_all width l0.length l0 [] 0)) ∧ Below w.heap.size w w' := by
  have info5 : (Tryd.prog.info? 5).map (fun i => (i.zero, i.size, i.bytes)) = some (some (.int .u8 0), 1, 1) := by kernel_rfl
  have hmf : ∀ (fn : Fn) (first cap : Array Value) (w : World), (Instr.makeFunc fn first cap).run Tryd.prog w = .ok (.func fn first cap) w := fun _ _ _ _ => rfl
  go_enter Tryd.func9, Tryd.ntmps9
  go_wp2
  go_loopw [0] (fun v0 wr => ∃ (A : Option Addr) (c : Nat) (l : List Int) (v : Value) (L : List Int) (col : Int), v0 = .slice A l.length c ∧ Aside0 (Kd.C (Kd.int .u8) w A l.length l) ∧ l.length ≤ c ∧ Aside0 (b64_St w wr (w.heap.size + 1) (w.heap.size + 1 + 1) w.heap.size v L col width) ∧ l.length ≤ l0.length ∧ L.length + 12 * l.length ≤ 12 * l0.length ∧ b64_all width l.length l L col = b64_all width l0.length l0 [] 0) (fun v0 _ => b64_lenOf v0)
  case atStart =>
    refine ⟨A0, c0, l0, .slice none 0 0, [], 0, rfl, ⟨hr0⟩, hc0, ⟨?_⟩, Nat.le_refl _, by simp, rfl⟩
    have s1 : (w.alloc (Obj.cells #[Value.int IntKind.i64 width] 3)).heap.size = w.heap.size + 1 := by simp
    have s2 : ((w.alloc (Obj.cells #[Value.int IntKind.i64 width] 3)).alloc (Obj.cells #[Value.slice none 0 0] 22)).heap.size = w.heap.size + 1 + 1 := by simp
    refine ⟨Kd.R_nil _ _ _ _ _, b64_alloc _ ?_, ?_, b64_alloc _ (b64_alloc _ (heap_alloc_new _ _)), below_alloc (below_alloc (below_alloc (Below.refl _ _) _) _) _⟩
    · have := heap_alloc_new (w.alloc (Obj.cells #[Value.int IntKind.i64 width] 3)) (Obj.cells #[Value.slice none 0 0] 22)
      rwa [s1] at this
    · have := heap_alloc_new ((w.alloc (Obj.cells #[Value.int IntKind.i64 width] 3)).alloc (Obj.cells #[Value.slice none 0 0] 22)) (Obj.cells #[Value.int IntKind.i64 0] 3)
      rwa [s2] at this
  case round =>
    obtain ⟨A, c, l, v, L, col, rfl, hC, hlc, hS, hll, hLl, hspec⟩ := hrel
    have hcell := cell_of_row wr (w.heap.size) 0 _ _ _ hS.out.wid
    have hcol := cell_of_row wr (w.heap.size + 1 + 1) 0 _ _ _ hS.out.colm
    have hout := cell_of_row wr (w.heap.size + 1) 0 _ _ _ hS.out.out
    have fout := frozen_of_row wr (w.heap.size + 1) 0 _ _ hS.out.out
    simp only [List.getElem?_toArray, List.getElem?_cons_zero] at hcell hcol hout
    have lpo := blk_lt hS.out.out
    have lpc := blk_lt hS.out.colm
    by_cases h0 : l = []
    · subst h0
      have hs : b64_all width l0.length l0 [] 0 = (L, col) := hspec.symm
      simp only [List.length_nil] at hC hlc
      by_cases hw : 0 < width
      · have hwb : decide (0 < width) = true := decide_eq_true hw
        by_cases hc0 : 0 < col
        · have hcb : decide (0 < col) = true := decide_eq_true hc0
          go_wp2_with ((with_reducible refine gate_builtin (b := .append) (xs := #[.tmp 63, .tmp 64]) rfl ?_); at_builtin; refine Kd.R_append_rows (Kd.int .u8) (w0 := w) w.heap.size rfl (.tmp 63) (.tmp 64) 22 5 (.int .u8 0) 1 rfl Tryd.underlying22 info5 rfl (by decide) (by omega) v L [13, 10] _ _ _ (b64_ok (w.heap.size + 1) (w.heap.size + 1 + 1) w.heap.size) (fun _ => False) rfl rfl ?aO ?aR (fun _ _ h => h) (fun _ h => h.elim) ?aF ?aB ?aS ?aL ?_; (case aR => exact Aids.const_C [13, 10] (by decide) (heap_alloc_new _ _)); (case aO => exact Kd.R_alloc hS.out.row _); (case aB => exact below_alloc hS.out.below _); (case aF => exact (fun k hk => by simp at hk; exact ⟨by omega, by omega, by omega⟩)); (case aS => exact below_size (below_alloc hS.out.below _)); (case aL => simp; omega); intro v2 w2 ho2 hb2 hg2 hat2; obtain ⟨A2, cc2, rfl⟩ := Kd.R_slice ho2; have p1 := blk_grown (b64_alloc (.cells #[.int .u8 13, .int .u8 10] 5) hS.out.out) hg2 (Kd.R_away hS.out.row (fun _ hk => hk.1)); have qpo := cell_of_row w2 (w.heap.size + 1) 0 _ _ _ p1; have gpo := frozen_of_row w2 (w.heap.size + 1) 0 _ _ p1; simp only [List.getElem?_toArray, List.getElem?_cons_zero] at qpo; have P1 := Aside0.mk p1; have HO2 := Aside0.mk ho2; have HB2 := Aside0.mk hb2; clear p1 ho2 hb2 hg2 hat2)
          go_ret
          have ho3 := HO2.out
          have hlen : List.length (L ++ [13, 10]) = L.length + 2 := by rw [List.length_append]; rfl
          rw [hlen] at ho3
          refine ⟨_, rfl, ?_, HB2.out.setCell (p := ⟨w.heap.size + 1, 0, none⟩) (by simp) _⟩
          try rw [hs]
          rw [show b64_done width (L, col) = L ++ [13, 10] from by unfold b64_done; rw [if_pos hw]; exact if_pos hc0]
          exact Kd.R_mono (Kd.R_far ho3 (p := ⟨w.heap.size + 1, 0, none⟩) (fun _ hk => hk.1) _) (fun _ _ => trivial)
        · have hcb : decide (0 < col) = false := decide_eq_false hc0
          go_wp2
          go_ret
          refine ⟨_, rfl, ?_, hS.out.below⟩
          try rw [hs]
          rw [show b64_done width (L, col) = L from by unfold b64_done; rw [if_pos hw]; exact if_neg (Int.not_lt.2 hc0)]
          exact Kd.R_mono hS.out.row (fun _ _ => trivial)
      · have hwb : decide (0 < width) = false := decide_eq_false hw
        go_wp2
        go_ret
        refine ⟨_, rfl, ?_, hS.out.below⟩
        try rw [hs]
        rw [show b64_done width (L, col) = L from by unfold b64_done; exact if_neg (Int.not_lt.2 hw)]
        exact Kd.R_mono hS.out.row (fun _ _ => trivial)
    · have hpos : 0 < l.length := by cases l with | nil => exact absurd rfl h0 | cons => simp
      have hpb : decide ((0 : Int) < (l.length : Int)) = true := decide_eq_true (by omega)
      obtain ⟨n, hn⟩ : ∃ n : Nat, n = min l.length 3 := ⟨_, rfl⟩
      have hmn : (if (3 : Int) < (l.length : Int) then (3 : Int) else (l.length : Int)) = (n : Int) := by
        by_cases h : (3 : Int) < (l.length : Int)
        · rw [if_pos h]; omega
        · rw [if_neg h]; omega
      have HN := Aside0.mk hn
      have HLL := Aside0.mk hll
      have HLl := Aside0.mk hLl
      have HSP := Aside0.mk hspec
      have HLC := Aside0.mk hlc
      clear hn hll hLl hspec hlc
      go_wp2_with fail
      go_loopw [9, 19] (fun vx vi wq => ∃ k : Nat, k ≤ 3 ∧ vi = .int .i64 (k : Int) ∧ vx = .int .i64 (b64_x l (n : Int) k) ∧ Aside0 (wq = wr)) (fun _ vi _ => 3 - (intOf vi).toNat)
      case atStart => exact ⟨0, by omega, rfl, rfl, ⟨rfl⟩⟩
      case round =>
        obtain ⟨k, hk, rfl, rfl, hwq⟩ := hrel
        cases hwq.out
        clear hwq
        by_cases hk3 : k < 3
        · have hk3b : decide ((k : Int) < 3) = true := b64_klt k 3 hk3
          have hwk := Aside0.mk (b64_wk k 3 (by decide) hk3)
          by_cases hkn : k < n
          · have hknb : decide ((k : Int) < (n : Int)) = true := b64_klt k n hkn
            obtain ⟨ad1, e1, hx1⟩ := Kd.at_int hC.out (k : Int) (b64_p1 k) (b64_q1 HN.out hkn)
            cases e1
            simp only [Int.toNat_natCast] at hx1
            replace hx1 := (hS.out.below.cell (World.block_lt_of_cell? w _ hx1)).trans hx1
            have p1 := eq_true (b64_p1 k)
            have q1 := eq_true (b64_q1 HN.out hkn)
            go_wp2
            have hxs : b64_x l (n : Int) (k + 1) = bits BinOp.or IntKind.i64 (wrap64 (b64_x l (n : Int) k * 256)) (wrap64 (rd l (k : Int))) := if_pos (show (k : Int) < (n : Int) from by omega)
            exact ⟨⟨k + 1, hk3, rfl, by rw [hxs], ⟨trivial⟩⟩, by simp only [intOf]; omega⟩
          · have hknb : decide ((k : Int) < (n : Int)) = false := b64_kge k n hkn
            go_wp2
            have hxs : b64_x l (n : Int) (k + 1) = wrap64 (b64_x l (n : Int) k * 256) := if_neg (show ¬ (k : Int) < (n : Int) from by omega)
            exact ⟨⟨k + 1, hk3, rfl, by rw [hxs], ⟨trivial⟩⟩, by simp only [intOf]; omega⟩
        · have hk3b : decide ((k : Int) < 3) = false := b64_kge k 3 hk3
          cases (b64_eq3 hk hk3)
          go_wp2_with fail
          have hwr := (rfl : wr = wr)
          go_loopw [35] (fun vi wq => ∃ (k : Nat) (v' : Value), k ≤ 4 ∧ vi = .int .i64 (k : Int) ∧ Aside0 (b64_St w wq (w.heap.size + 1) (w.heap.size + 1 + 1) w.heap.size v' (b64_four width (b64_x l (n : Int) 3) (n : Int) L col k).1 (b64_four width (b64_x l (n : Int) 3) (n : Int) L col k).2 width)) (fun vi _ => 4 - (intOf vi).toNat)
          case atStart => exact ⟨0, v, by omega, rfl, hS⟩
          case round =>
            clear hS fout hcell hcol hout lpo lpc hk hk3 hk3b
            obtain ⟨k, v', hk, rfl, hS⟩ := hrel
            have hbig : (b64_four width (b64_x l (n : Int) 3) (n : Int) L col k).1.length < 1000000 := b64_big (b64_fourlen _ _ _ _ _ k) HLl.out hl hk
            by_cases hk3 : k < 4
            · have hk3b : decide ((k : Int) < 4) = true := b64_klt k 4 hk3
              by_cases hkn : n < k
              · have hknb : decide ((n : Int) < (k : Int)) = true := b64_klt n k hkn
                go_wp2_with (go_at_call 15; refine (b64_put w _ (w.heap.size + 1) (w.heap.size + 1 + 1) w.heap.size (by omega) (by omega) (by omega) (by omega) (by omega) (by omega) v' _ _ width 61 hbig hS.out).mono ?_; rintro e w2 ⟨rfl, v2, hs2⟩; have HS2 := Aside0.mk hs2; clear hs2)
                go_roundw
                case measure => simp [intOf]; omega
                case rel =>
                  have hat : b64_at (b64_x l (n : Int) 3) (n : Int) k = 61 := if_pos (show (k : Int) > (n : Int) from by omega)
                  have hs2 := HS2.out
                  rw [← hat] at hs2
                  exact ⟨_, _, _, _, _, _, _, _, _, _, _, _, _, _, _, _, _, _, _, _, ⟨k + 1, _, hk3, rfl, ⟨hs2⟩⟩, rfl⟩
              · have hknb : decide ((n : Int) < (k : Int)) = false := b64_kge n k hkn
                obtain ⟨j, hj, hjx⟩ := b64_and63 (b64_x l (n : Int) 3 / 2 ^ (6 * (3 - k)))
                have hx := hL j hj
                replace hx := (hS.out.below.cell (World.block_lt_of_cell? w _ hx)).trans hx
                have hat : b64_at (b64_x l (n : Int) 3) (n : Int) k = rd b64_lets (j : Int) := (if_neg (show ¬ (k : Int) > (n : Int) from by omega)).trans (congrArg (rd b64_lets) hjx)
                have HAT := Aside0.mk hat
                clear hat
                go_wp2_with (go_at_call 15; refine (b64_put w _ (w.heap.size + 1) (w.heap.size + 1 + 1) w.heap.size (by omega) (by omega) (by omega) (by omega) (by omega) (by omega) v' _ _ width (rd b64_lets (j : Int)) hbig hS.out).mono ?_; rintro e w2 ⟨rfl, v2, hs2⟩; have HS2 := Aside0.mk hs2; clear hs2)
                go_roundw
                case measure => simp [intOf]; omega
                case rel =>
                  have hs2 := HS2.out
                  rw [← HAT.out] at hs2
                  exact ⟨_, _, _, _, _, _, _, _, _, _, _, _, _, _, _, _, _, _, _, _, ⟨k + 1, _, hk3, rfl, ⟨hs2⟩⟩, rfl⟩
            · have hk3b : decide ((k : Int) < 4) = false := b64_kge k 4 hk3
              have hk4 : k = 4 := by omega
              subst hk4
              go_wp2_with fail
              have hnl := HN.out
              have hlc := HLC.out
              have hC2 := Kd.C_drop (m := n) hC.out (by omega) hlc
              have hlen : (l.drop n).length = l.length - n := List.length_drop
              have h4 := b64_fourlen width (b64_x l (n : Int) 3) (n : Int) L col 4
              have hall : b64_all width l.length l L col = b64_all width (l.drop n).length (l.drop n) (b64_four width (b64_x l (n : Int) 3) (n : Int) L col 4).1 (b64_four width (b64_x l (n : Int) 3) (n : Int) L col 4).2 := b64_step width h0 HN.out L col
              refine ⟨⟨_, c - n, l.drop n, v', _, _, by rw [hlen], ⟨?_⟩, by rw [hlen]; omega, hS, by rw [hlen]; have := HLL.out; omega, ?_, ?_⟩, ?_⟩
              · simpa [show (Kd.int .u8).sz = 1 from rfl] using hC2
              · have := HLl.out
                rw [hlen]; omega
              · rw [← hall]; exact HSP.out
              · show l.length - n < l.length
                omega

theorem b64_Letters.below {w w1 : World} (h : b64_Letters w) (hb : Below w.heap.size w w1) : b64_Letters w1 := fun j hj => (hb.cell (World.block_lt_of_cell? w _ (h j hj))).trans (h j hj)
def b64_Encode.f (l0 : List Int) (a1 : Int) : Option (List Int) := if l0.length ≤ 10000 then some (b64_done a1 (b64_all a1 l0.length l0 [] 0)) else none
theorem b64_Encode.calls (A0 : Option Addr) (c0 : Nat) (l0 : List Int) (a1 : Int) (r1 : List Int) (w : World) (hr0 : Kd.C (Kd.int .u8) w A0 l0.length l0) (hc0 : l0.length ≤ c0) (h : b64_Encode.f l0 a1 = some r1) (hL : b64_Letters w := by first | exact hL0 | exact b64_Letters.below hL0 (by repeat (first | (with_reducible first | exact HB.out | apply below_alloc | apply pw_below_drewN | apply below_drew1) | exact HB.out))) :
    Calls Tryd.prog 9 #[.slice A0 l0.length c0, .int .i64 a1] w fun e w' => ∃ v0_, e = .returned v0_ ∧ Kd.R (Kd.int .u8) 5 w' w.heap.size (fun _ => True) v0_ r1 ∧ Below w.heap.size w w' := by
  unfold b64_Encode.f at h
  by_cases hl : l0.length ≤ 10000
  · rw [if_pos hl] at h
    obtain rfl := Option.some.inj h
    exact b64_Enc A0 c0 l0 a1 w hL hr0 hc0 hl
  · rw [if_neg hl] at h
    exact absurd h (by simp)

/-! ### b64_Bare: function 13 -/
def b64_Bare.l0 : Nat → List Int → List Int → Int → Int → Option (List Int)
  | 0, _, _, _, _ => none
  | k + 1, x3, x6, x7, x8 => if x8 < x7 then (if 0 ≤ x8 then (if x8 < (x6.length : Int) then (if (rd x6 x8) = 32 then (b64_Bare.l0 k x3 x6 x7 (wrap64 (x8 + 1))) else (if (rd x6 x8) = 9 then (b64_Bare.l0 k x3 x6 x7 (wrap64 (x8 + 1))) else (if (rd x6 x8) = 13 then (b64_Bare.l0 k x3 x6 x7 (wrap64 (x8 + 1))) else (if (rd x6 x8) = 10 then (b64_Bare.l0 k x3 x6 x7 (wrap64 (x8 + 1))) else (if x3.length < 140737488355328 then (b64_Bare.l0 k (x3 ++ [rd x6 x8]) x6 x7 (wrap64 (x8 + 1))) else (none)))))) else (none)) else (none)) else (some x3)
def b64_Bare.f (k : Nat) (l0 : List Int) : Option (List Int) := b64_Bare.l0 k ([] : List Int) l0 (l0.length : Int) 0
theorem b64_Bare.mono_l : ∀ k, (∀ y0 y1 y2 y3, LeO (b64_Bare.l0 k y0 y1 y2 y3) (b64_Bare.l0 (k + 1) y0 y1 y2 y3))
  | 0 => fun _ _ _ _ r h => by simp [b64_Bare.l0] at h
  | k + 1 => by
    have ih0 := b64_Bare.mono_l k
    · intro y0 y1 y2 y3
      unfold b64_Bare.l0
      repeat' first
      | (with_reducible exact ih0 _ _ _ _)
      | (with_reducible exact LeO.refl _)
      | (with_reducible exact LeO.none _)
      | (with_reducible refine LeO.ite ?_ ?_)
      | (with_reducible refine LeO.bind ?_ (fun _ => ?_))
      | exact ih0 _ _ _ _
      | exact LeO.none _
      | refine LeO.ite ?_ ?_
      | refine LeO.bind ?_ (fun _ => ?_)
theorem b64_Bare.mono : ∀ a0 k, LeO (b64_Bare.f k a0) (b64_Bare.f (k + 1) a0) := by
  intro a0 k
  have ih0 := b64_Bare.mono_l k
  unfold b64_Bare.f
  repeat' first
      | (with_reducible exact ih0 _ _ _ _)
      | (with_reducible exact LeO.refl _)
      | (with_reducible exact LeO.none _)
      | (with_reducible refine LeO.ite ?_ ?_)
      | (with_reducible refine LeO.bind ?_ (fun _ => ?_))
      | exact ih0 _ _ _ _
      | exact LeO.none _
      | refine LeO.ite ?_ ?_
      | refine LeO.bind ?_ (fun _ => ?_)
set_option maxHeartbeats 8000000 in
set_option maxRecDepth 100000 in
theorem b64_Bare.calls (k : Nat) (A0 : Option Addr) (c0 : Nat) (l0 : List Int) (r : List Int) (w : World) (hr0 : Kd.C (Kd.int .u8) w A0 l0.length l0) (hc0 : l0.length ≤ c0) (h : b64_Bare.f k l0 = some r) :
    Calls Tryd.prog 13 #[.slice A0 l0.length c0] w fun e w' => ∃ v0_ : Value, e = .returned (v0_) ∧ Kd.R (Kd.int .u8) 5 w' w.heap.size (fun _ => True) v0_ r ∧ Below w.heap.size w w' := by
  have HR0 := Aside0.mk hr0
  have HC0 := Aside0.mk hc0
  clear hr0 hc0
  have HB := Aside0.mk (Below.refl w.heap.size w)
  have H : (b64_Bare.l0 k ([] : List Int) l0 (l0.length : Int) 0) = some r := h
  clear h
  have H' := Aside0.mk H
  clear H
  go_enter Tryd.func13, Tryd.ntmps13
  go_wp2
  go_loopg [3, 8] k (fun kq v3 v8 w' => ∃ (x3_1 : List Int) (x8_1 : Int), v8 = .int .i64 x8_1 ∧ Aside0 (b64_Bare.l0 kq x3_1 l0 (l0.length : Int) x8_1 = some r) ∧ Aside0 (kq ≤ k) ∧ Aside0 (Kd.R (Kd.int .u8) 5 w' w.heap.size (fun _ => True) v3 x3_1) ∧ Aside0 (Below w.heap.size w w'))
  case atStart => exact ⟨(([] : List Int)), (0), (by first | rfl | (simp; done) | (simp [*]; done)), H', ⟨Nat.le_refl _⟩, ⟨by first | exact Kd.R_nil _ _ _ _ _ | exact Kd.N_nil _ _ _ _ _ | exact Kd.V_nil _ _ _ _ _ | exact Kd.Q_nil _ _ _ _ _ | exact Kd.S_nil _ _ _ _ _⟩, ⟨by repeat (first | (with_reducible first | exact HB.out | apply below_alloc | apply pw_below_drewN | apply below_drew1) | exact HB.out)⟩⟩
  case round =>
    clear H'
    try clear c1
    obtain ⟨x3_1, x8_1, rfl, HA, HK1, HO_3, HB⟩ := hrel
    cases gk with
    | zero => exact absurd HA.out (by simp [b64_Bare.l0])
    | succ k1 =>
      have H := HA.out
      clear HA
      simp only [b64_Bare.l0] at H
      by_cases c2 : x8_1 < (l0.length : Int)
      · rw [if_pos c2] at H
        have c2b0 : decide (x8_1 < (l0.length : Int)) = true := decide_eq_true c2
        clear c2
        by_cases c3 : 0 ≤ x8_1
        · rw [if_pos c3] at H
          have c3b0 : decide (0 ≤ x8_1) = true := decide_eq_true c3
          clear c3
          by_cases c4 : x8_1 < (l0.length : Int)
          · rw [if_pos c4] at H
            have c4b0 : decide (x8_1 < (l0.length : Int)) = true := decide_eq_true c4
            clear c4
            by_cases c5 : (rd l0 x8_1) = 32
            · rw [if_pos c5] at H
              have c5b0 : ((rd l0 x8_1) == 32) = true := beq_iff_eq.mpr c5
              have c5b1 : ((rd l0 x8_1) != 32) = false := bne_eq_false_iff_eq.mpr c5
              clear c5
              have H' := Aside0.mk H
              clear H
              have p101 : 0 ≤ (x8_1 : Int) := of_decide_eq_true (by first | (with_reducible assumption) | assumption)
              have q101 : x8_1 < (l0.length : Int) := of_decide_eq_true (by first | (with_reducible assumption) | assumption)
              obtain ⟨ad101, e101, hx101_0⟩ := Kd.at_int HR0.out x8_1 p101 q101
              cases e101
              replace hx101_0 := (HB.out.cell (World.block_lt_of_cell? w _ hx101_0)).trans hx101_0
              replace p101 := eq_true p101
              replace q101 := eq_true q101
              go_wp2
              go_roundg k1
              case measure => have := HK1.out; omega
              case rel => exact ⟨(x3_1), (wrap64 (x8_1 + 1)), (by first | rfl | (simp; done) | (simp [*]; done)), H', ⟨by have := HK1.out; omega⟩, ⟨by (with_reducible repeat (first | apply Kd.R_alloc | apply Kd.R_drewN | apply Kd.R_drew)); exact HO_3.out⟩, ⟨by repeat (first | (with_reducible first | exact HB.out | apply below_alloc | apply pw_below_drewN | apply below_drew1) | exact HB.out)⟩⟩
            · rw [if_neg c5] at H
              have c5b0 : ((rd l0 x8_1) == 32) = false := beq_eq_false_iff_ne.mpr c5
              have c5b1 : ((rd l0 x8_1) != 32) = true := bne_iff_ne.mpr c5
              by_cases c6 : (rd l0 x8_1) = 9
              · rw [if_pos c6] at H
                have c6b0 : ((rd l0 x8_1) == 9) = true := beq_iff_eq.mpr c6
                have c6b1 : ((rd l0 x8_1) != 9) = false := bne_eq_false_iff_eq.mpr c6
                clear c6
                have H' := Aside0.mk H
                clear H
                have p101 : 0 ≤ (x8_1 : Int) := of_decide_eq_true (by first | (with_reducible assumption) | assumption)
                have q101 : x8_1 < (l0.length : Int) := of_decide_eq_true (by first | (with_reducible assumption) | assumption)
                obtain ⟨ad101, e101, hx101_0⟩ := Kd.at_int HR0.out x8_1 p101 q101
                cases e101
                replace hx101_0 := (HB.out.cell (World.block_lt_of_cell? w _ hx101_0)).trans hx101_0
                replace p101 := eq_true p101
                replace q101 := eq_true q101
                go_wp2
                go_roundg k1
                case measure => have := HK1.out; omega
                case rel => exact ⟨(x3_1), (wrap64 (x8_1 + 1)), (by first | rfl | (simp; done) | (simp [*]; done)), H', ⟨by have := HK1.out; omega⟩, ⟨by (with_reducible repeat (first | apply Kd.R_alloc | apply Kd.R_drewN | apply Kd.R_drew)); exact HO_3.out⟩, ⟨by repeat (first | (with_reducible first | exact HB.out | apply below_alloc | apply pw_below_drewN | apply below_drew1) | exact HB.out)⟩⟩
              · rw [if_neg c6] at H
                have c6b0 : ((rd l0 x8_1) == 9) = false := beq_eq_false_iff_ne.mpr c6
                have c6b1 : ((rd l0 x8_1) != 9) = true := bne_iff_ne.mpr c6
                by_cases c7 : (rd l0 x8_1) = 13
                · rw [if_pos c7] at H
                  have c7b0 : ((rd l0 x8_1) == 13) = true := beq_iff_eq.mpr c7
                  have c7b1 : ((rd l0 x8_1) != 13) = false := bne_eq_false_iff_eq.mpr c7
                  clear c7
                  have H' := Aside0.mk H
                  clear H
                  have p101 : 0 ≤ (x8_1 : Int) := of_decide_eq_true (by first | (with_reducible assumption) | assumption)
                  have q101 : x8_1 < (l0.length : Int) := of_decide_eq_true (by first | (with_reducible assumption) | assumption)
                  obtain ⟨ad101, e101, hx101_0⟩ := Kd.at_int HR0.out x8_1 p101 q101
                  cases e101
                  replace hx101_0 := (HB.out.cell (World.block_lt_of_cell? w _ hx101_0)).trans hx101_0
                  replace p101 := eq_true p101
                  replace q101 := eq_true q101
                  go_wp2
                  go_roundg k1
                  case measure => have := HK1.out; omega
                  case rel => exact ⟨(x3_1), (wrap64 (x8_1 + 1)), (by first | rfl | (simp; done) | (simp [*]; done)), H', ⟨by have := HK1.out; omega⟩, ⟨by (with_reducible repeat (first | apply Kd.R_alloc | apply Kd.R_drewN | apply Kd.R_drew)); exact HO_3.out⟩, ⟨by repeat (first | (with_reducible first | exact HB.out | apply below_alloc | apply pw_below_drewN | apply below_drew1) | exact HB.out)⟩⟩
                · rw [if_neg c7] at H
                  have c7b0 : ((rd l0 x8_1) == 13) = false := beq_eq_false_iff_ne.mpr c7
                  have c7b1 : ((rd l0 x8_1) != 13) = true := bne_iff_ne.mpr c7
                  by_cases c8 : (rd l0 x8_1) = 10
                  · rw [if_pos c8] at H
                    have c8b0 : ((rd l0 x8_1) == 10) = true := beq_iff_eq.mpr c8
                    have c8b1 : ((rd l0 x8_1) != 10) = false := bne_eq_false_iff_eq.mpr c8
                    clear c8
                    have H' := Aside0.mk H
                    clear H
                    have p101 : 0 ≤ (x8_1 : Int) := of_decide_eq_true (by first | (with_reducible assumption) | assumption)
                    have q101 : x8_1 < (l0.length : Int) := of_decide_eq_true (by first | (with_reducible assumption) | assumption)
                    obtain ⟨ad101, e101, hx101_0⟩ := Kd.at_int HR0.out x8_1 p101 q101
                    cases e101
                    replace hx101_0 := (HB.out.cell (World.block_lt_of_cell? w _ hx101_0)).trans hx101_0
                    replace p101 := eq_true p101
                    replace q101 := eq_true q101
                    go_wp2
                    go_roundg k1
                    case measure => have := HK1.out; omega
                    case rel => exact ⟨(x3_1), (wrap64 (x8_1 + 1)), (by first | rfl | (simp; done) | (simp [*]; done)), H', ⟨by have := HK1.out; omega⟩, ⟨by (with_reducible repeat (first | apply Kd.R_alloc | apply Kd.R_drewN | apply Kd.R_drew)); exact HO_3.out⟩, ⟨by repeat (first | (with_reducible first | exact HB.out | apply below_alloc | apply pw_below_drewN | apply below_drew1) | exact HB.out)⟩⟩
                  · rw [if_neg c8] at H
                    have c8b0 : ((rd l0 x8_1) == 10) = false := beq_eq_false_iff_ne.mpr c8
                    have c8b1 : ((rd l0 x8_1) != 10) = true := bne_iff_ne.mpr c8
                    by_cases c9 : x3_1.length < 140737488355328
                    · rw [if_pos c9] at H
                      have LMc9 := Aside0.mk c9
                      clear c9
                      obtain ⟨y102, hy102⟩ : ∃ y_ : List Int, y_ = (x3_1 ++ [rd l0 x8_1]) := ⟨_, rfl⟩
                      replace H : (b64_Bare.l0 k1 y102 l0 (l0.length : Int) (wrap64 (x8_1 + 1))) = some r := by first | (rw [hy102]; with_reducible exact H) | (have H2_ := (Option.bind_some _ _).symm.trans H; rw [hy102]; with_reducible exact H2_) | (have H2_ := (Option.bind_some _ _).symm.trans H; with_reducible exact H2_) | with_reducible exact H | (rw [hy102]; exact H) | exact H
                      have Ny102 := Aside0.mk hy102
                      clear hy102
                      have H' := Aside0.mk H
                      clear H
                      have p101 : 0 ≤ (x8_1 : Int) := of_decide_eq_true (by first | (with_reducible assumption) | assumption)
                      have q101 : x8_1 < (l0.length : Int) := of_decide_eq_true (by first | (with_reducible assumption) | assumption)
                      obtain ⟨ad101, e101, hx101_0⟩ := Kd.at_int HR0.out x8_1 p101 q101
                      cases e101
                      replace hx101_0 := (HB.out.cell (World.block_lt_of_cell? w _ hx101_0)).trans hx101_0
                      replace p101 := eq_true p101
                      replace q101 := eq_true q101
                      go_wp2_with (first | ((with_reducible refine gate_builtin (b := .append) (xs := #[.tmp 13, .tmp 15]) rfl ?_); at_builtin; refine Kd.R_append (Kd.int .u8) (w0 := w) w.heap.size rfl (.tmp 13) (.tmp 15) 22 5 (.int .u8 0) 1 rfl Tryd.underlying22 info5 rfl (by decide) (by omega) u3 x3_1 (rd l0 x8_1) [.int .u8 (rd l0 x8_1)] (fun _ => True) (fun _ => False) rfl rfl ?aP (fun _ hk => hk.elim) ?aF ?aO ?aB ?aS ?aL ?_; (case aP => exact rfl); (case aB => exact (by repeat (first | (with_reducible first | exact HB.out | apply below_alloc | apply pw_below_drewN | apply below_drew1) | exact HB.out))); (case aF => exact (fun _ _ => trivial)); (case aO => exact (by (with_reducible repeat (first | apply Kd.R_alloc | apply Kd.R_drewN | apply Kd.R_drew)); exact HO_3.out)); (case aS => exact (below_size (by repeat (first | (with_reducible first | exact HB.out | apply below_alloc | apply pw_below_drewN | apply below_drew1) | exact HB.out)))); (case aL => have := LMc9.out; omega); intro v103 w10 ho hb hg hat; rw [← Ny102.out] at ho; have n0_ := Aside0.mk (hb); have n1_ := Aside0.mk (ho); clear HB; clear HO_3; have HB := n0_; have HO104 := n1_; clear n0_ n1_; clear ho hb hg hat))
                      go_roundg k1
                      case measure => have := HK1.out; omega
                      case rel => exact ⟨(y102), (wrap64 (x8_1 + 1)), (by first | rfl | (simp; done) | (simp [*]; done)), H', ⟨by have := HK1.out; omega⟩, ⟨by (with_reducible repeat (first | apply Kd.R_alloc | apply Kd.R_drewN | apply Kd.R_drew)); exact HO104.out⟩, ⟨by repeat (first | (with_reducible first | exact HB.out | apply below_alloc | apply pw_below_drewN | apply below_drew1) | exact HB.out)⟩⟩
                    · rw [if_neg c9] at H
                      exact absurd H (by simp)
          · rw [if_neg c4] at H
            exact absurd H (by simp)
        · rw [if_neg c3] at H
          exact absurd H (by simp)
      · rw [if_neg c2] at H
        have c2b0 : decide (x8_1 < (l0.length : Int)) = false := decide_eq_false c2
        clear c2
        obtain rfl := Option.some.inj H
        go_wp2
        go_ret
        exact ⟨_, by first | rfl | (simp [errW_none, errW_some] <;> rfl) | (simp [*, errW_none, errW_some] <;> rfl), by (with_reducible repeat (first | apply Kd.R_alloc | apply Kd.R_drewN | apply Kd.R_drew)); exact HO_3.out, by repeat (first | (with_reducible first | exact HB.out | apply below_alloc | apply pw_below_drewN | apply below_drew1) | exact HB.out)⟩

/-! ### b64_value: function 20 -/
mutual
def b64_value.j0 : Nat → Int → Bool → Option (Int)
  | 0, _, _ => none
  | k + 1, x0, x3 => if x3 = true then (some ((x0 - 65) % 256)) else (if x0 ≥ 97 then (b64_value.j1 k x0 (decide (x0 ≤ 122))) else (b64_value.j1 k x0 false))
def b64_value.j1 : Nat → Int → Bool → Option (Int)
  | 0, _, _ => none
  | k + 1, x0, x13 => if x13 = true then (some (((x0 - 97) % 256) + 26)) else (if x0 ≥ 48 then (b64_value.j2 k x0 (decide (x0 ≤ 57))) else (b64_value.j2 k x0 false))
def b64_value.j2 : Nat → Int → Bool → Option (Int)
  | 0, _, _ => none
  | k + 1, x0, x24 => if x24 = true then (some (((x0 - 48) % 256) + 52)) else (if x0 = 43 then (some 62) else (if x0 = 47 then (some 63) else (some (-1))))
end
def b64_value.f (k : Nat) (a0 : Int) : Option (Int) := if a0 ≥ 65 then (b64_value.j0 k a0 (decide (a0 ≤ 90))) else (b64_value.j0 k a0 false)
theorem b64_value.mono_l : ∀ k, (∀ y0 y1, LeO (b64_value.j0 k y0 y1) (b64_value.j0 (k + 1) y0 y1)) ∧ (∀ y0 y1, LeO (b64_value.j1 k y0 y1) (b64_value.j1 (k + 1) y0 y1)) ∧ (∀ y0 y1, LeO (b64_value.j2 k y0 y1) (b64_value.j2 (k + 1) y0 y1))
  | 0 => ⟨fun _ _ r h => by simp [b64_value.j0] at h, fun _ _ r h => by simp [b64_value.j1] at h, fun _ _ r h => by simp [b64_value.j2] at h⟩
  | k + 1 => by
    obtain ⟨ih0, ih1, ih2⟩ := b64_value.mono_l k
    refine ⟨?_, ?_, ?_⟩
    · intro y0 y1
      unfold b64_value.j0
      repeat' first
      | (with_reducible exact ih0 _ _)
      | (with_reducible exact ih1 _ _)
      | (with_reducible exact ih2 _ _)
      | (with_reducible exact LeO.refl _)
      | (with_reducible exact LeO.none _)
      | (with_reducible refine LeO.ite ?_ ?_)
      | (with_reducible refine LeO.bind ?_ (fun _ => ?_))
      | exact ih0 _ _
      | exact ih1 _ _
      | exact ih2 _ _
      | exact LeO.none _
      | refine LeO.ite ?_ ?_
      | refine LeO.bind ?_ (fun _ => ?_)
    · intro y0 y1
      unfold b64_value.j1
      repeat' first
      | (with_reducible exact ih0 _ _)
      | (with_reducible exact ih1 _ _)
      | (with_reducible exact ih2 _ _)
      | (with_reducible exact LeO.refl _)
      | (with_reducible exact LeO.none _)
      | (with_reducible refine LeO.ite ?_ ?_)
      | (with_reducible refine LeO.bind ?_ (fun _ => ?_))
      | exact ih0 _ _
      | exact ih1 _ _
      | exact ih2 _ _
      | exact LeO.none _
      | refine LeO.ite ?_ ?_
      | refine LeO.bind ?_ (fun _ => ?_)
    · intro y0 y1
      unfold b64_value.j2
      repeat' first
      | (with_reducible exact ih0 _ _)
      | (with_reducible exact ih1 _ _)
      | (with_reducible exact ih2 _ _)
      | (with_reducible exact LeO.refl _)
      | (with_reducible exact LeO.none _)
      | (with_reducible refine LeO.ite ?_ ?_)
      | (with_reducible refine LeO.bind ?_ (fun _ => ?_))
      | exact ih0 _ _
      | exact ih1 _ _
      | exact ih2 _ _
      | exact LeO.none _
      | refine LeO.ite ?_ ?_
      | refine LeO.bind ?_ (fun _ => ?_)
theorem b64_value.mono : ∀ a0 k, LeO (b64_value.f k a0) (b64_value.f (k + 1) a0) := by
  intro a0 k
  obtain ⟨ih0, ih1, ih2⟩ := b64_value.mono_l k
  unfold b64_value.f
  repeat' first
      | (with_reducible exact ih0 _ _)
      | (with_reducible exact ih1 _ _)
      | (with_reducible exact ih2 _ _)
      | (with_reducible exact LeO.refl _)
      | (with_reducible exact LeO.none _)
      | (with_reducible refine LeO.ite ?_ ?_)
      | (with_reducible refine LeO.bind ?_ (fun _ => ?_))
      | exact ih0 _ _
      | exact ih1 _ _
      | exact ih2 _ _
      | exact LeO.none _
      | refine LeO.ite ?_ ?_
      | refine LeO.bind ?_ (fun _ => ?_)
set_option maxHeartbeats 8000000 in
set_option maxRecDepth 100000 in
theorem b64_value.calls (k : Nat) (a0 : Int) (r : Int) (w : World) (h : b64_value.f k a0 = some r) :
    Calls Tryd.prog 20 #[.int .u8 a0] w fun e w' => e = .returned (.int .i64 r) ∧ Drawn0 w w' := by
  have H : (if a0 ≥ 65 then (b64_value.j0 k a0 (decide (a0 ≤ 90))) else (b64_value.j0 k a0 false)) = some r := h
  clear h
  have HC2 := Aside0.mk H
  clear H
  go_enter Tryd.func20, Tryd.ntmps20
  go_upto_region 1 with (fail)
  go_cut [3] (fun v3 wc => ∃ (kq : Nat) (x3_1 : Bool), v3 = .bool x3_1 ∧ Aside0 (b64_value.j0 kq a0 x3_1 = some r) ∧ Aside0 (kq ≤ k) ∧ Drawn0 w wc)
  case first =>
    have H := HC2.out
    clear HC2
    by_cases c3 : a0 ≥ 65
    · rw [if_pos c3] at H
      have c3b0 : decide (65 ≤ a0) = true := decide_eq_true c3
      clear c3
      (first | rw [c3b0] | (simp only [i64_w, i32_w]; rw [c3b0]) | skip)
      have H' := Aside0.mk H
      clear H
      go_wp2
      go_meet
      case rel => exact ⟨_, (decide (a0 ≤ 90)), (by first | rfl | (simp; done) | (simp [*]; done)), H', ⟨by first | omega | exact Nat.le_refl _⟩, by repeat (first | exact Drawn0.refl _ | apply Drawn0.step)⟩
    · rw [if_neg c3] at H
      have c3b0 : decide (65 ≤ a0) = false := decide_eq_false c3
      clear c3
      (first | rw [c3b0] | (simp only [i64_w, i32_w]; rw [c3b0]) | skip)
      have H' := Aside0.mk H
      clear H
      go_wp2
      go_meet
      case rel => exact ⟨_, (false), (by first | rfl | (simp; done) | (simp [*]; done)), H', ⟨by first | omega | exact Nat.le_refl _⟩, by repeat (first | exact Drawn0.refl _ | apply Drawn0.step)⟩
  case rest =>
    clear HC2
    try clear c2
    try clear p2
    try clear c3
    try clear c3b0
    obtain ⟨kq, x3_1, rfl, HA, HJ1, ⟨mc1, rfl⟩⟩ := hcut
    cases kq with
    | zero => exact absurd HA.out (by simp [b64_value.j0])
    | succ kj1 =>
      have H := HA.out
      clear HA
      simp only [b64_value.j0] at H
      by_cases c4 : x3_1 = true
      · subst c4
        have H1 : (some ((a0 - 65) % 256)) = some r := by rw [if_pos rfl] at H; exact H
        clear H
        have H := H1
        clear H1
        obtain rfl := Option.some.inj H
        go_wp2
        go_ret
        exact ⟨by first | rfl | (simp; done) | (simp [*]; done), by repeat (first | exact Drawn0.refl _ | apply Drawn0.step)⟩
      · replace c4 := Bool.eq_false_iff.mpr c4
        subst c4
        have H1 : (if a0 ≥ 97 then (b64_value.j1 kj1 a0 (decide (a0 ≤ 122))) else (b64_value.j1 kj1 a0 false)) = some r := by rw [if_neg (show ¬ (false = true) by decide)] at H; exact H
        clear H
        have H := H1
        clear H1
        have HC5 := Aside0.mk H
        clear H
        go_upto_region 3 with (fail)
        go_cut [13] (fun v13 wc => ∃ (kq : Nat) (x13_4 : Bool), v13 = .bool x13_4 ∧ Aside0 (b64_value.j1 kq a0 x13_4 = some r) ∧ Aside0 (kq ≤ kj1) ∧ Drawn0 w wc)
        case first =>
          have H := HC5.out
          clear HC5
          by_cases c6 : a0 ≥ 97
          · rw [if_pos c6] at H
            have c6b0 : decide (97 ≤ a0) = true := decide_eq_true c6
            clear c6
            (first | rw [c6b0] | (simp only [i64_w, i32_w]; rw [c6b0]) | skip)
            have H' := Aside0.mk H
            clear H
            go_wp2
            go_meet
            case rel => exact ⟨_, (decide (a0 ≤ 122)), (by first | rfl | (simp; done) | (simp [*]; done)), H', ⟨by have := HJ1.out; first | omega | exact Nat.le_refl _⟩, by repeat (first | exact Drawn0.refl _ | apply Drawn0.step)⟩
          · rw [if_neg c6] at H
            have c6b0 : decide (97 ≤ a0) = false := decide_eq_false c6
            clear c6
            (first | rw [c6b0] | (simp only [i64_w, i32_w]; rw [c6b0]) | skip)
            have H' := Aside0.mk H
            clear H
            go_wp2
            go_meet
            case rel => exact ⟨_, (false), (by first | rfl | (simp; done) | (simp [*]; done)), H', ⟨by have := HJ1.out; first | omega | exact Nat.le_refl _⟩, by repeat (first | exact Drawn0.refl _ | apply Drawn0.step)⟩
        case rest =>
          clear HC5
          try clear c1
          try clear c2
          try clear p2
          try clear c3
          try clear c3b0
          try clear c4
          try clear c6
          try clear c6b0
          try clear p2
          obtain ⟨kq, x13_4, rfl, HA, HJ4, ⟨mc4, rfl⟩⟩ := hcut
          cases kq with
          | zero => exact absurd HA.out (by simp [b64_value.j1])
          | succ kj4 =>
            have H := HA.out
            clear HA
            simp only [b64_value.j1] at H
            by_cases c7 : x13_4 = true
            · subst c7
              have H1 : (some (((a0 - 97) % 256) + 26)) = some r := by rw [if_pos rfl] at H; exact H
              clear H
              have H := H1
              clear H1
              obtain rfl := Option.some.inj H
              go_wp2
              go_ret
              exact ⟨by first | rfl | (simp; done) | (simp [*]; done), by repeat (first | exact Drawn0.refl _ | apply Drawn0.step)⟩
            · replace c7 := Bool.eq_false_iff.mpr c7
              subst c7
              have H1 : (if a0 ≥ 48 then (b64_value.j2 kj4 a0 (decide (a0 ≤ 57))) else (b64_value.j2 kj4 a0 false)) = some r := by rw [if_neg (show ¬ (false = true) by decide)] at H; exact H
              clear H
              have H := H1
              clear H1
              have HC8 := Aside0.mk H
              clear H
              go_upto_region 5 with (fail)
              go_cut [24] (fun v24 wc => ∃ (kq : Nat) (x24_7 : Bool), v24 = .bool x24_7 ∧ Aside0 (b64_value.j2 kq a0 x24_7 = some r) ∧ Aside0 (kq ≤ kj4) ∧ Drawn0 w wc)
              case first =>
                have H := HC8.out
                clear HC8
                by_cases c9 : a0 ≥ 48
                · rw [if_pos c9] at H
                  have c9b0 : decide (48 ≤ a0) = true := decide_eq_true c9
                  clear c9
                  (first | rw [c9b0] | (simp only [i64_w, i32_w]; rw [c9b0]) | skip)
                  have H' := Aside0.mk H
                  clear H
                  go_wp2
                  go_meet
                  case rel => exact ⟨_, (decide (a0 ≤ 57)), (by first | rfl | (simp; done) | (simp [*]; done)), H', ⟨by have := HJ1.out; have := HJ4.out; first | omega | exact Nat.le_refl _⟩, by repeat (first | exact Drawn0.refl _ | apply Drawn0.step)⟩
                · rw [if_neg c9] at H
                  have c9b0 : decide (48 ≤ a0) = false := decide_eq_false c9
                  clear c9
                  (first | rw [c9b0] | (simp only [i64_w, i32_w]; rw [c9b0]) | skip)
                  have H' := Aside0.mk H
                  clear H
                  go_wp2
                  go_meet
                  case rel => exact ⟨_, (false), (by first | rfl | (simp; done) | (simp [*]; done)), H', ⟨by have := HJ1.out; have := HJ4.out; first | omega | exact Nat.le_refl _⟩, by repeat (first | exact Drawn0.refl _ | apply Drawn0.step)⟩
              case rest =>
                clear HC8
                try clear c1
                try clear c2
                try clear p2
                try clear c3
                try clear c3b0
                try clear c4
                try clear c6
                try clear c6b0
                try clear c7
                try clear c9
                try clear c9b0
                try clear p2
                obtain ⟨kq, x24_7, rfl, HA, HJ7, ⟨mc7, rfl⟩⟩ := hcut
                cases kq with
                | zero => exact absurd HA.out (by simp [b64_value.j2])
                | succ kj7 =>
                  have H := HA.out
                  clear HA
                  simp only [b64_value.j2] at H
                  by_cases c10 : x24_7 = true
                  · subst c10
                    have H1 : (some (((a0 - 48) % 256) + 52)) = some r := by rw [if_pos rfl] at H; exact H
                    clear H
                    have H := H1
                    clear H1
                    obtain rfl := Option.some.inj H
                    go_wp2
                    go_ret
                    exact ⟨by first | rfl | (simp; done) | (simp [*]; done), by repeat (first | exact Drawn0.refl _ | apply Drawn0.step)⟩
                  · replace c10 := Bool.eq_false_iff.mpr c10
                    subst c10
                    have H1 : (if a0 = 43 then (some 62) else (if a0 = 47 then (some 63) else (some (-1)))) = some r := by rw [if_neg (show ¬ (false = true) by decide)] at H; exact H
                    clear H
                    have H := H1
                    clear H1
                    by_cases c11 : a0 = 43
                    · rw [if_pos c11] at H
                      have c11b0 : (a0 == 43) = true := beq_iff_eq.mpr c11
                      have c11b1 : (a0 != 43) = false := bne_eq_false_iff_eq.mpr c11
                      clear c11
                      obtain rfl := Option.some.inj H
                      go_wp2
                      go_ret
                      exact ⟨by first | rfl | (simp; done) | (simp [*]; done), by repeat (first | exact Drawn0.refl _ | apply Drawn0.step)⟩
                    · rw [if_neg c11] at H
                      have c11b0 : (a0 == 43) = false := beq_eq_false_iff_ne.mpr c11
                      have c11b1 : (a0 != 43) = true := bne_iff_ne.mpr c11
                      by_cases c12 : a0 = 47
                      · rw [if_pos c12] at H
                        have c12b0 : (a0 == 47) = true := beq_iff_eq.mpr c12
                        have c12b1 : (a0 != 47) = false := bne_eq_false_iff_eq.mpr c12
                        clear c12
                        obtain rfl := Option.some.inj H
                        go_wp2
                        go_ret
                        exact ⟨by first | rfl | (simp; done) | (simp [*]; done), by repeat (first | exact Drawn0.refl _ | apply Drawn0.step)⟩
                      · rw [if_neg c12] at H
                        have c12b0 : (a0 == 47) = false := beq_eq_false_iff_ne.mpr c12
                        have c12b1 : (a0 != 47) = true := bne_iff_ne.mpr c12
                        obtain rfl := Option.some.inj H
                        go_wp2
                        go_ret
                        exact ⟨by first | rfl | (simp; done) | (simp [*]; done), by repeat (first | exact Drawn0.refl _ | apply Drawn0.step)⟩

end Go.Proofs.YtnmojlolgioijaaDoor.P
