-- Written by a program of this session (wip/tools/mk.sh) for this claim: it runs the kit's print with contracts of our own. Lean checks it.
import Derived.Test.YtckmfmfhhojmfaaPx0
import Derived.Test.YtckmfmfhhojmfaaPx1
import Derived.Test.YtckmfmfhhojmfaaPx2
namespace Go.Proofs.Ytckmfmfhhojmfaa.P
open Go.RowKit Go.Proofs.YtckmfmfhhojmfaaW.PrintWords Go.Proofs.YtckmfmfhhojmfaaW.PrintLast Go.Proofs.YtckmfmfhhojmfaaW.PrintMore
attribute [-simp] Int.tmod_tmod_of_dvd
attribute [local go_sem] max2_int min2_int max_two min_two max_three min_three max_four min_four   -- for this text's walks alone
set_option linter.unusedVariables false
set_option linter.unusedSimpArgs false

/-! ### header_Body: function 7 -/
/-- the texts of lines, one behind the other -/
def bd_cat (l0 : List Int) : List S40 → ByteArray → ByteArray
  | [], s => s
  | x :: t, s => bd_cat l0 t (s ++ ln_txt l0 x.f0 x.f1)
def bd_lines (l0 : List Int) (x y : Int) : List S40 := if 0 ≤ x ∧ x ≤ y ∧ y ≤ (l0.length : Int) then ln_from l0 y.toNat x.toNat else []
def bd_body (l0 : List Int) (x y : Int) : ByteArray := bd_cat l0 (bd_lines l0 x y) ⟨#[]⟩
theorem bd_lines_len (l0 : List Int) (x y : Int) : (bd_lines l0 x y).length ≤ l0.length := by
  unfold bd_lines
  by_cases h : 0 ≤ x ∧ x ≤ y ∧ y ≤ (l0.length : Int)
  · rw [if_pos h]
    have := ln_from_len l0 y.toNat _ x.toNat (Nat.le_refl _)
    omega
  · rw [if_neg h]; simp
theorem bd_txt (l0 : List Int) (x y : Int) : (ln_txt l0 x y).size ≤ l0.length := by
  unfold ln_txt
  by_cases h : 0 ≤ x ∧ x ≤ y ∧ y ≤ (l0.length : Int)
  · rw [if_pos h, strOfNums_size]; simp; omega
  · rw [if_neg h]; exact Nat.zero_le _
theorem bd_drop (ls : List S40) (k : Nat) (h : k < ls.length) : ls.drop k = rd_T40 ls (k : Int) :: ls.drop (k + 1) := by
  rw [List.drop_eq_getElem_cons h]
  congr 1
  unfold rd_T40
  rw [Int.toNat_natCast, List.getD_eq_getElem?_getD, List.getElem?_eq_getElem h]; rfl
set_option maxHeartbeats 2000000 in
theorem hd_Body (A : Option Addr) (c : Nat) (l0 : List Int) (f0 : ByteArray) (f1 f2 f3 : Int) (w : World) (k : Nat) (r : ByteArray) (hr0 : Kd.C (Kd.int .u8) w A l0.length l0) (hc : l0.length ≤ c) (hl : l0.length ≤ 100000)
    (hT : chars_Trim.f k (bd_body l0 f2 f3) = some r) :
    Calls Try.prog 7 #[.slice A l0.length c, .agg #[.string f0, .int .i64 f1, .int .i64 f2, .int .i64 f3]] w fun e w' => e = .returned (.string r) ∧ Below w.heap.size w w' := by
  have hOf : lines_Of.f l0 f2 f3 = some (bd_lines l0 f2 f3) := if_pos hl
  have hll := bd_lines_len l0 f2 f3
  unfold bd_body at hT
  generalize hls : bd_lines l0 f2 f3 = ls at *
  have HT := Aside0.mk hT
  have HOF := Aside0.mk hOf
  clear hT hOf hls
  go_enter Try.func7, Try.ntmps7
  go_wp2_with fail
  have hbe : Below w.heap.size w ((w.alloc (.cells #[.string f0, .int .i64 f1, .int .i64 f2, .int .i64 f3] 31)).alloc (.cells #[.pointer none, .slice none 0 0] 48)) := ((Below.refl _ w).alloc (Nat.le_refl _) _).alloc (by simp) _
  have hI0 : Lib.IsBuilderF 48 5 (w.heap.size + 1) (w.heap.size + 1) [] ((w.alloc (.cells #[.string f0, .int .i64 f1, .int .i64 f2, .int .i64 f3] 31)).alloc (.cells #[.pointer none, .slice none 0 0] 48)) := by
    have := Lib.IsBuilderF.of (Lib.fresh_isBuilder 48 5 (w.alloc (.cells #[.string f0, .int .i64 f1, .int .i64 f2, .int .i64 f3] 31)))
    simpa using this
  have hsz : ((w.alloc (.cells #[.string f0, .int .i64 f1, .int .i64 f2, .int .i64 f3] 31)).alloc (.cells #[.pointer none, .slice none 0 0] 48)).heap.size = w.heap.size + 2 := by simp
  refine (lines_Of.calls A c l0 f2 f3 ls _ (Kd.C_below hr0 hbe) hc HOF.out).mono ?_
  rintro e w1 ⟨v1, rfl, hR1, hb1⟩
  obtain ⟨A1, cc1, rfl⟩ := Kd.R_slice hR1
  have hI1 := hd_builder hI0 hb1
  have hbe1 : Below w.heap.size w w1 := hbe.trans (hb1.mono (by rw [hsz]; omega))
  have hsz1 : w.heap.size + 2 ≤ w1.heap.size := by have := hb1.size; omega
  have hG : ∀ g, A1 = some ⟨g, 0, none⟩ → w.heap.size + 2 ≤ g ∧ ∃ cur fz, w1.heap[g]? = some (.cells cur 40 fz) := by
    intro g hg
    obtain ⟨_, inner, ho, _⟩ := hR1
    rcases ho.2 with ⟨e, _⟩ | ⟨g', cap, cur, e, hq⟩
    · injection e with e1 e2 e3; rw [hg] at e1; cases e1
    · injection e with e1 e2 e3; rw [hg] at e1; injection e1 with e1; injection e1 with e1; subst e1
      have q1 := hq.1
      rw [hsz] at q1
      exact ⟨q1, cur, _, hq.2.1⟩
  have hA1 : ∀ ad, A1 = some ad → ∃ g, ad = ⟨g, 0, none⟩ := by
    intro ad hg
    obtain ⟨_, inner, ho, _⟩ := hR1
    rcases ho.2 with ⟨e, _⟩ | ⟨g', cap, cur, e, hq⟩
    · injection e with e1 e2 e3; rw [hg] at e1; cases e1
    · injection e with e1 e2 e3; rw [hg] at e1; injection e1 with e1; exact ⟨g', e1⟩
  have hC1 := (Kd.R_reads' hR1).2.2
  have HG := Aside0.mk hG
  have HA1 := Aside0.mk hA1
  have HC1 := Aside0.mk hC1
  have HB1 := Aside0.mk hbe1
  have HI1 := Aside0.mk hI1
  clear hbe hI0 hsz hb1 hR1 hG hA1 hC1 hbe1 hI1
  go_wp2_with fail
  go_loopw [16] (fun i wr => ∃ (k : Nat) (acc : List UInt8), k ≤ ls.length ∧ i = .int .i64 (k : Int) ∧ Aside0 (Lib.IsBuilderF 48 5 (w.heap.size + 1) (w.heap.size + 1) (Lib.byteCells acc) wr) ∧ Aside0 (Below w.heap.size w wr) ∧ Aside0 (w.heap.size + 2 ≤ wr.heap.size) ∧ Aside0 (∀ g, A1 = some ⟨g, 0, none⟩ → wr.heap[g]? = w1.heap[g]?) ∧ Aside0 (bd_cat l0 (ls.drop k) ⟨acc.toArray⟩ = bd_cat l0 ls ⟨#[]⟩) ∧ Aside0 (acc.length ≤ k * 100000)) (fun i _ => ls.length - (intOf i).toNat)
  case atStart => exact ⟨0, [], Nat.zero_le _, rfl, ⟨HI1.out⟩, HB1, ⟨hsz1⟩, ⟨fun g _ => rfl⟩, ⟨rfl⟩, ⟨by simp⟩⟩
  case round =>
    obtain ⟨kk, acc, hk, rfl, hI, hB, hZ, hK, hcat, hacc⟩ := hrel
    by_cases hlt : kk < ls.length
    · have hb := decide_eq_true (show ((kk : Int) < (ls.length : Int)) by omega)
      obtain ⟨ad, e1, hx0, hx1, hx2⟩ := at_T40 HC1.out (kk : Int) (by omega) (by omega)
      cases e1
      obtain ⟨g, rfl⟩ := HA1.out ad rfl
      obtain ⟨hg1, cur, fz, hg2⟩ := HG.out g rfl
      have hkg := hK.out g rfl
      have hcell : ∀ p : Addr, p.block = g → wr.cell? p = w1.cell? p := fun p hp => by simp only [World.cell?, hp, hkg]
      have e0 : (⟨g, 0, none⟩ : Addr).add (kk * 3) = ⟨g, kk * 3, none⟩ := by
        unfold Addr.add
        by_cases h : kk * 3 = 0
        · rw [if_pos h, h]
        · rw [if_neg h, Nat.zero_add]
      simp only [Int.toNat_natCast] at hx0 hx1 hx2
      rw [e0] at hx0 hx1 hx2
      simp only at hx0 hx1 hx2
      have hy0 := (hcell _ rfl).trans hx0
      have hy1 := (hcell _ rfl).trans hx1
      have hy2 := (hcell _ rfl).trans hx2
      have al := below_alloc (Below.refl wr.heap.size wr) (.cells #[.int .i64 (rd_T40 ls (kk : Int)).f0, .int .i64 (rd_T40 ls (kk : Int)).f1, .int .i64 (rd_T40 ls (kk : Int)).f2] 40)
      have HBA := Aside0.mk (show Below w.heap.size w (wr.alloc (.cells #[.int .i64 (rd_T40 ls (kk : Int)).f0, .int .i64 (rd_T40 ls (kk : Int)).f1, .int .i64 (rd_T40 ls (kk : Int)).f2] 40)) from hB.out.trans (al.mono (by have := hZ.out; omega)))
      have HIA := Aside0.mk (hI.out.alloc (.cells #[.int .i64 (rd_T40 ls (kk : Int)).f0, .int .i64 (rd_T40 ls (kk : Int)).f1, .int .i64 (rd_T40 ls (kk : Int)).f2] 40))
      have HKA := Aside0.mk (show (wr.alloc (.cells #[.int .i64 (rd_T40 ls (kk : Int)).f0, .int .i64 (rd_T40 ls (kk : Int)).f1, .int .i64 (rd_T40 ls (kk : Int)).f2] 40)).heap[g]? = some (.cells cur 40 fz) from (al.block g (by rw [hg2] at hkg; exact (Array.getElem?_eq_some_iff.1 hkg).1)).trans (hkg.trans hg2))
      have HZA := Aside0.mk (show w.heap.size + 2 ≤ (wr.alloc (.cells #[.int .i64 (rd_T40 ls (kk : Int)).f0, .int .i64 (rd_T40 ls (kk : Int)).f1, .int .i64 (rd_T40 ls (kk : Int)).f2] 40)).heap.size by have := hZ.out; simp; omega)
      have HG2 := Aside0.mk hg2
      have ht0 := e0
      clear al hcell hx0 hx1 hx2 hkg hg2
      go_wp2_with fail
      refine (lines_Text.calls A c l0 _ _ _ (ln_txt l0 (rd_T40 ls (kk : Int)).f0 (rd_T40 ls (kk : Int)).f1) _ (Kd.C_below hr0 HBA.out) hc rfl).mono ?_
      rintro e w2 ⟨rfl, hB2⟩
      have hlt2 := bd_txt l0 (rd_T40 ls (kk : Int)).f0 (rd_T40 ls (kk : Int)).f1
      have HT2 := Aside0.mk hlt2
      have HI2 := Aside0.mk (hd_builder HIA.out hB2)
      have HZ2 := Aside0.mk (show w.heap.size + 2 ≤ w2.heap.size from by have := HZA.out; have := hB2.size; omega)
      have HBB := Aside0.mk (HBA.out.trans (hB2.mono (by have := HZA.out; omega)))
      have HK2 := Aside0.mk ((hB2.block g (Array.getElem?_eq_some_iff.1 HKA.out).1).trans HKA.out)
      clear hB2 hlt2
      have HCAT := Aside0.mk (show bd_cat l0 (ls.drop (kk + 1)) ⟨(acc ++ (ln_txt l0 (rd_T40 ls (kk : Int)).f0 (rd_T40 ls (kk : Int)).f1).data.toList).toArray⟩ = bd_cat l0 ls ⟨#[]⟩ from by
        rw [← hcat.out, bd_drop ls kk hlt]
        show _ = bd_cat l0 (ls.drop (kk + 1)) ((⟨acc.toArray⟩ : ByteArray) ++ ln_txt l0 (rd_T40 ls (kk : Int)).f0 (rd_T40 ls (kk : Int)).f1)
        congr 1)
      generalize ln_txt l0 (rd_T40 ls (kk : Int)).f0 (rd_T40 ls (kk : Int)).f1 = tx at *
      go_wp2_with fail
      refine (hd_WriteK (w.heap.size + 1) (w.heap.size + 1) _ tx _ HI2.out (by rw [Lib.byteCells_length]; have := hacc.out; have := HT2.out; omega) (by have := HZ2.out; omega)).mono ?_
      rintro e w3 ⟨rfl, h3, b3, k3⟩
      have HI3 := Aside0.mk (show Lib.IsBuilderF 48 5 (w.heap.size + 1) (w.heap.size + 1) (Lib.byteCells (acc ++ tx.data.toList)) w3 from by rw [Lib.byteCells_append]; exact Or.inr h3)
      have HB3 := Aside0.mk (HBB.out.trans (b3.mono (by omega)))
      have HZ3 := Aside0.mk (show w.heap.size + 2 ≤ w3.heap.size from by have := HZ2.out; have := b3.size; omega)
      have HK3 := Aside0.mk (k3 g _ HK2.out (by intro h; injection h with h; omega) (by intro c fz h; injection h with h1 h2 h3; exact absurd h2 (by decide)))
      clear h3 b3 k3
      go_wp2
      go_roundw
      case rel => exact ⟨kk + 1, acc ++ tx.data.toList, by omega, by go_num, HI3, HB3, HZ3, ⟨fun g' hg' => by
        injection hg' with hg'; injection hg' with hg'; subst hg'
        rw [HG2.out]; exact HK3.out⟩, HCAT, ⟨by rw [List.length_append]; have := hacc.out; have := HT2.out; have : tx.size = tx.data.toList.length := Lib.size_eq _; omega⟩⟩
      case measure => simp [intOf]; omega
    · have hb := decide_eq_false (show ¬ ((kk : Int) < (ls.length : Int)) by omega)
      have hkk : kk = ls.length := by omega
      have HT3 := Aside0.mk (show chars_Trim.f k ⟨acc.toArray⟩ = some r from by
        have h := hcat.out
        rw [hkk, List.drop_eq_nil_of_le (Nat.le_refl _)] at h
        have h2 := HT.out
        rw [← h] at h2
        exact h2)
      go_wp2_with fail
      refine (hd_StringK (w.heap.size + 1) (w.heap.size + 1) acc _ hI.out (by have := hZ.out; omega)).mono ?_
      rintro e w3 ⟨rfl, h3, b3, k3⟩
      have HB3 := Aside0.mk (hB.out.trans (b3.mono (by omega)))
      clear h3 b3 k3
      go_wp2_with fail
      refine (chars_Trim.calls k _ r _ HT3.out).mono ?_
      rintro e w4 ⟨rfl, hb4⟩
      have HB4 := Aside0.mk (HB3.out.trans (hb4.below.mono HB3.out.size))
      clear hb4
      go_wp2
      go_ret
      exact ⟨rfl, HB4.out⟩
def header_Body.f (k : Nat) (l0 : List Int) (a1_0 : ByteArray) (a1_1 : Int) (a1_2 : Int) (a1_3 : Int) : Option ByteArray := if l0.length ≤ 100000 then chars_Trim.f k (bd_body l0 a1_2 a1_3) else none
theorem header_Body.mono : ∀ (y0 : List Int) (y1 : ByteArray) (y2 y3 y4 : Int) k, LeO (header_Body.f k y0 y1 y2 y3 y4) (header_Body.f (k + 1) y0 y1 y2 y3 y4) := by
  intro y0 y1 y2 y3 y4 k
  unfold header_Body.f
  by_cases h : y0.length ≤ 100000
  · rw [if_pos h, if_pos h]; exact chars_Trim.mono _ _
  · rw [if_neg h, if_neg h]; exact LeO.refl _
theorem header_Body.calls (k : Nat) (A0 : Option Addr) (c0 : Nat) (l0 : List Int) (a1_0 : ByteArray) (a1_1 : Int) (a1_2 : Int) (a1_3 : Int) (r : ByteArray) (w : World) (hr0 : Kd.C (Kd.int .u8) w A0 l0.length l0) (hc0 : l0.length ≤ c0) (h : header_Body.f k l0 a1_0 a1_1 a1_2 a1_3 = some r) :
    Calls Try.prog 7 #[.slice A0 l0.length c0, .agg #[.string a1_0, .int .i64 a1_1, .int .i64 a1_2, .int .i64 a1_3]] w fun e w' => e = .returned (.string r) ∧ Below w.heap.size w w' := by
  unfold header_Body.f at h
  by_cases hl : l0.length ≤ 100000
  · rw [if_pos hl] at h
    exact hd_Body A0 c0 l0 a1_0 a1_1 a1_2 a1_3 w k r hr0 hc0 hl h
  · rw [if_neg hl] at h
    exact absurd h (by simp)

-- NOT PRINTED: function 32 (header_Field)

-- NOT PRINTED: function 22 (header_Find)

/-! ### header_Value: function 9 -/
/-- two texts, the same but for small and capital -/
def sm (a b : ByteArray) : Bool := (chars_Same.f a b).getD false
theorem sm_is (a b : ByteArray) (ha : a.size ≤ 9223372036854775807) (hb : b.size ≤ 9223372036854775807) : chars_Same.f a b = some (sm a b) := by
  unfold sm chars_Same.f
  rw [show chars_Fold.f a = _ from if_pos ha, show chars_Fold.f b = _ from if_pos hb]
  rfl
/-- the first place at which something holds -/
def fx {α : Type} (p : α → Bool) : List α → Nat
  | [] => 0
  | x :: t => if p x = true then 0 else fx p t + 1
theorem fx_at {α : Type} (p : α → Bool) (d : α) : ∀ (l : List α) (k : Nat), k ≤ l.length → (∀ j : Nat, j < k → p (l.getD j d) = false) → (k = l.length ∨ p (l.getD k d) = true) → fx p l = k
  | [], k, h, _, _ => by simp at h; subst h; rfl
  | x :: t, 0, _, _, h => by
    rcases h with h | h
    · simp at h
    · show (if p x = true then 0 else fx p t + 1) = 0
      exact if_pos h
  | x :: t, k + 1, hk, hn, h => by
    have h0 : p x = false := hn 0 (by omega)
    show (if p x = true then 0 else fx p t + 1) = k + 1
    rw [if_neg (by rw [h0]; decide), fx_at p d t k (by simp at hk; omega) (fun j hj => hn (j + 1) (by omega)) (h.elim (fun h => .inl (by simp at h; exact h)) (fun h => .inr h))]
def fxr {α : Type} (p : α → Bool) (l : List α) : Int := if fx p l < l.length then (fx p l : Int) else -1
theorem fx_any {α : Type} (p : α → Bool) : ∀ l : List α, (fx p l < l.length ↔ l.any p = true)
  | [] => by simp [fx]
  | x :: t => by
    have ih := fx_any p t
    unfold fx
    by_cases h : p x = true
    · rw [if_pos h]; simp [h]
    · rw [if_neg h, List.any_cons, List.length_cons]
      have h' : p x = false := by simpa using h
      rw [h', Bool.false_or, ← ih]
      omega
theorem fxr_any {α : Type} (p : α → Bool) (l : List α) : decide (0 ≤ fxr p l) = l.any p := by
  have h := fx_any p l
  unfold fxr
  by_cases hx : fx p l < l.length
  · rw [if_pos hx, h.1 hx, decide_eq_true (by omega)]
  · rw [if_neg hx]
    have : l.any p = false := by
      cases e : l.any p with
      | false => rfl
      | true => exact absurd (h.2 e) hx
    rw [this]; rfl
theorem fd_klt (k m : Nat) (h : k < m) : decide ((k : Int) < (m : Int)) = true := decide_eq_true (by omega)
theorem fd_kge (k m : Nat) (h : ¬ k < m) : decide ((k : Int) < (m : Int)) = false := decide_eq_false (by omega)
set_option maxHeartbeats 2000000 in
theorem fd_hit (x : S31) (name : ByteArray) (pn : Nat) (w : World) (b : Bool) (hn : w.cell? ⟨pn, 0, none⟩ = some (.string name)) (hs : chars_Same.f x.f0 name = some b) :
    Calls Try.prog 33 #[.agg #[.string x.f0, .int .i64 x.f1, .int .i64 x.f2, .int .i64 x.f3], .pointer (some ⟨pn, 0, none⟩)] w fun e w' => e = .returned (.bool b) ∧ Below w.heap.size w w' := by
  have al := below_alloc (Below.refl w.heap.size w) (.cells #[.string x.f0, .int .i64 x.f1, .int .i64 x.f2, .int .i64 x.f3] 31)
  have hn2 := (al.cell (p := ⟨pn, 0, none⟩) (World.block_lt_of_cell? w _ hn)).trans hn
  have HAL := Aside0.mk al
  have HS := Aside0.mk hs
  clear al hn hs
  go_enter Try.func33, Try.ntmps33
  go_wp2_with fail
  refine (chars_Same.calls _ _ b _ HS.out).mono ?_
  rintro e w2 ⟨rfl, hB2⟩
  have HB2 := Aside0.mk (HAL.out.trans (hB2.mono HAL.out.size))
  clear hB2
  go_wp2
  go_ret
  exact ⟨rfl, HB2.out⟩
set_option maxHeartbeats 2000000 in
theorem fd_hits (x : S31) (name : ByteArray) (pf : Nat) (w : World) (b : Bool) (hn : w.cell? ⟨pf, 0, none⟩ = some (.string x.f0)) (hs : chars_Same.f x.f0 name = some b) :
    Calls Try.prog 19 #[.string name, .pointer (some ⟨pf, 0, none⟩)] w fun e w' => e = .returned (.bool b) ∧ Below w.heap.size w w' := by
  have HS := Aside0.mk hs
  clear hs
  go_enter Try.func19, Try.ntmps19
  go_wp2_with fail
  refine (chars_Same.calls _ _ b _ HS.out).mono ?_
  rintro e w2 ⟨rfl, hB2⟩
  have HB2 := Aside0.mk hB2
  clear hB2
  go_wp2
  go_ret
  exact ⟨rfl, HB2.out⟩
theorem rd31_mem (l : List S31) (k : Nat) (h : k < l.length) : rd_T31 l (k : Int) ∈ l := by
  unfold rd_T31
  rw [Int.toNat_natCast, List.getD_eq_getElem?_getD, List.getElem?_eq_getElem h]
  exact List.getElem_mem h
set_option maxHeartbeats 2000000 in
theorem fd_IndexFunc (A : Option Addr) (c : Nat) (l : List S31) (name : ByteArray) (pn : Nat) (w : World) (hr : Kd.C k31 w A l.length l) (hl : l.length ≤ 100000) (hn : w.cell? ⟨pn, 0, none⟩ = some (.string name))
    (hs : ∀ x ∈ l, chars_Same.f x.f0 name = some (sm x.f0 name)) :
    Calls Try.prog 32 #[.slice A l.length c, .func (.func 33) #[] #[.pointer (some ⟨pn, 0, none⟩)]] w fun e w' => e = .returned (.int .i64 (fxr (fun x : S31 => sm x.f0 name) l)) ∧ Below w.heap.size w w' := by
  have ln := World.block_lt_of_cell? w _ hn
  have HS := Aside0.mk hs
  clear hs
  go_enter Try.func32, Try.ntmps32
  go_wp2
  go_loopw [8] (fun i wr => ∃ k : Nat, k ≤ l.length ∧ i = .int .i64 (k : Int) ∧ Aside0 (Below w.heap.size w wr) ∧ Aside0 (∀ j : Nat, j < k → sm (rd_T31 l (j : Int)).f0 name = false)) (fun i _ => l.length - (intOf i).toNat)
  case atStart => exact ⟨0, Nat.zero_le _, rfl, ⟨Below.refl _ _⟩, ⟨fun j hj => by omega⟩⟩
  case round =>
    obtain ⟨k, hk, rfl, hB, hno⟩ := hrel
    have HN := Aside0.mk ((hB.out.cell ln).trans hn)
    by_cases hlt : k < l.length
    · have hb := fd_klt k _ hlt
      obtain ⟨ad, e1, hx0, hx1, hx2, hx3⟩ := at_T31 (Kd.C_below hr hB.out) (k : Int) (by omega) (by omega)
      cases e1
      simp only [Int.toNat_natCast] at hx0 hx1 hx2 hx3
      have HM := Aside0.mk (HS.out _ (rd31_mem l k hlt))
      cases hv : sm (rd_T31 l (k : Int)).f0 name with
      | true =>
        have HV := Aside0.mk hv
        have HR := Aside0.mk (show fxr (fun x : S31 => sm x.f0 name) l = (k : Int) from by unfold fxr; rw [fx_at _ z31 l k hk (fun j hj => by have := hno.out j hj; unfold rd_T31 at this; simpa using this) (.inr (by unfold rd_T31 at hv; simpa using hv)), if_pos hlt])
        clear hv
        go_wp2_with (go_at_call 33; refine (fd_hit (rd_T31 l (k : Int)) name pn _ _ HN.out HM.out).mono ?_; rw [HV.out]; rintro e w2 ⟨rfl, hB2⟩; have HB2 := Aside0.mk hB2; clear hB2)
        go_ret
        rw [HR.out]
        exact ⟨rfl, hB.out.trans (HB2.out.mono hB.out.size)⟩
      | false =>
        have HV := Aside0.mk hv
        clear hv
        go_wp2_with (go_at_call 33; refine (fd_hit (rd_T31 l (k : Int)) name pn _ _ HN.out HM.out).mono ?_; rw [HV.out]; rintro e w2 ⟨rfl, hB2⟩; have HB2 := Aside0.mk hB2; clear hB2)
        go_roundw
        case rel => exact ⟨k + 1, by omega, by go_num, ⟨hB.out.trans (HB2.out.mono hB.out.size)⟩, ⟨fun j hj => by
          by_cases e : j = k
          · subst e; exact HV.out
          · exact hno.out j (by omega)⟩⟩
        case measure => simp [intOf]; omega
    · have hb := fd_kge k _ hlt
      have HR := Aside0.mk (show fxr (fun x : S31 => sm x.f0 name) l = -1 from by unfold fxr; rw [fx_at _ z31 l k hk (fun j hj => by have := hno.out j hj; unfold rd_T31 at this; simpa using this) (.inl (by omega)), if_neg hlt])
      go_wp2
      go_ret
      rw [HR.out]
      exact ⟨rfl, hB.out⟩
theorem rdS_mem (l : List ByteArray) (k : Nat) (h : k < l.length) : rdOf ByteArray.empty l (k : Int) ∈ l := by
  unfold rdOf
  rw [Int.toNat_natCast, List.getD_eq_getElem?_getD, List.getElem?_eq_getElem h]
  exact List.getElem_mem h
set_option maxHeartbeats 2000000 in
theorem fd_IndexFuncS (A : Option Addr) (c : Nat) (l : List ByteArray) (x : S31) (pf : Nat) (w : World) (hr : Kd.C Kd.string w A l.length l) (hl : l.length ≤ 100000) (hn : w.cell? ⟨pf, 0, none⟩ = some (.string x.f0))
    (hs : ∀ n ∈ l, chars_Same.f x.f0 n = some (sm x.f0 n)) :
    Calls Try.prog 30 #[.slice A l.length c, .func (.func 19) #[] #[.pointer (some ⟨pf, 0, none⟩)]] w fun e w' => e = .returned (.int .i64 (fxr (fun n : ByteArray => sm x.f0 n) l)) ∧ Below w.heap.size w w' := by
  have ln := World.block_lt_of_cell? w _ hn
  have HS := Aside0.mk hs
  clear hs
  go_enter Try.func30, Try.ntmps30
  go_wp2
  go_loopw [8] (fun i wr => ∃ k : Nat, k ≤ l.length ∧ i = .int .i64 (k : Int) ∧ Aside0 (Below w.heap.size w wr) ∧ Aside0 (∀ j : Nat, j < k → sm x.f0 (rdOf ByteArray.empty l (j : Int)) = false)) (fun i _ => l.length - (intOf i).toNat)
  case atStart => exact ⟨0, Nat.zero_le _, rfl, ⟨Below.refl _ _⟩, ⟨fun j hj => by omega⟩⟩
  case round =>
    obtain ⟨k, hk, rfl, hB, hno⟩ := hrel
    have HN := Aside0.mk ((hB.out.cell ln).trans hn)
    by_cases hlt : k < l.length
    · have hb := fd_klt k _ hlt
      obtain ⟨ad, e1, hx0⟩ := Kd.at_string (Kd.C_below hr hB.out) (k : Int) (by omega) (by omega)
      cases e1
      simp only [Int.toNat_natCast] at hx0
      have HM := Aside0.mk (HS.out _ (rdS_mem l k hlt))
      cases hv : sm x.f0 (rdOf ByteArray.empty l (k : Int)) with
      | true =>
        have HV := Aside0.mk hv
        have HR := Aside0.mk (show fxr (fun n : ByteArray => sm x.f0 n) l = (k : Int) from by unfold fxr; rw [fx_at _ ByteArray.empty l k hk (fun j hj => by have := hno.out j hj; unfold rdOf at this; simpa using this) (.inr (by unfold rdOf at hv; simpa using hv)), if_pos hlt])
        clear hv
        go_wp2_with (go_at_call 19; refine (fd_hits x _ pf _ _ HN.out HM.out).mono ?_; rw [HV.out]; rintro e w2 ⟨rfl, hB2⟩; have HB2 := Aside0.mk hB2; clear hB2)
        go_ret
        rw [HR.out]
        exact ⟨rfl, hB.out.trans (HB2.out.mono hB.out.size)⟩
      | false =>
        have HV := Aside0.mk hv
        clear hv
        go_wp2_with (go_at_call 19; refine (fd_hits x _ pf _ _ HN.out HM.out).mono ?_; rw [HV.out]; rintro e w2 ⟨rfl, hB2⟩; have HB2 := Aside0.mk hB2; clear hB2)
        go_roundw
        case rel => exact ⟨k + 1, by omega, by go_num, ⟨hB.out.trans (HB2.out.mono hB.out.size)⟩, ⟨fun j hj => by
          by_cases e : j = k
          · subst e; exact HV.out
          · exact hno.out j (by omega)⟩⟩
        case measure => simp [intOf]; omega
    · have hb := fd_kge k _ hlt
      have HR := Aside0.mk (show fxr (fun n : ByteArray => sm x.f0 n) l = -1 from by unfold fxr; rw [fx_at _ ByteArray.empty l k hk (fun j hj => by have := hno.out j hj; unfold rdOf at this; simpa using this) (.inl (by omega)), if_neg hlt])
      go_wp2
      go_ret
      rw [HR.out]
      exact ⟨rfl, hB.out⟩
theorem fd_ContainsFunc (A : Option Addr) (c : Nat) (l : List ByteArray) (x : S31) (pf : Nat) (w : World) (hr : Kd.C Kd.string w A l.length l) (hl : l.length ≤ 100000) (hn : w.cell? ⟨pf, 0, none⟩ = some (.string x.f0))
    (hs : ∀ n ∈ l, chars_Same.f x.f0 n = some (sm x.f0 n)) :
    Calls Try.prog 18 #[.slice A l.length c, .func (.func 19) #[] #[.pointer (some ⟨pf, 0, none⟩)]] w fun e w' => e = .returned (.bool (l.any fun n => sm x.f0 n)) ∧ Below w.heap.size w w' := by
  have HA := Aside0.mk (fxr_any (fun n : ByteArray => sm x.f0 n) l)
  go_enter Try.func18, Try.ntmps18
  go_wp2_with (go_at_call 30; refine (fd_IndexFuncS A c l x pf _ hr hl hn hs).mono ?_; rintro e w2 ⟨rfl, hB2⟩; have HB2 := Aside0.mk hB2; clear hB2)
  go_ret
  exact ⟨by rw [← HA.out]; rfl, HB2.out⟩
def fd_find (l : List S31) (name : ByteArray) : S31 × Bool := if fx (fun x : S31 => sm x.f0 name) l < l.length then (rd_T31 l ((fx (fun x : S31 => sm x.f0 name) l : Nat) : Int), true) else (⟨⟨#[]⟩, 0, 0, 0⟩, false)
theorem fd_put4 {W : World} {g : Nat} {a b c d a' b' c' d' : Value} (h : W.heap[g]? = some (.cells #[a, b, c, d] 31 (0, 0))) :
    ((((W.setCell ⟨g, 0, none⟩ a').setCell ⟨g, 1, none⟩ b').setCell ⟨g, 2, none⟩ c').setCell ⟨g, 3, none⟩ d').heap[g]? = some (.cells #[a', b', c', d'] 31 (0, 0)) :=
  blk_put (cs := #[a', b', c', d]) (blk_put (cs := #[a', b', c, d]) (blk_put (cs := #[a', b, c, d]) (blk_put (cs := #[a, b, c, d]) h 0 a' rfl) 1 b' rfl) 2 c' rfl) 3 d' rfl
set_option maxHeartbeats 4000000 in
theorem fd_Find (A : Option Addr) (c : Nat) (l : List S31) (name : ByteArray) (w : World) (hr : Kd.C k31 w A l.length l) (hl : l.length ≤ 100000)
    (hs : ∀ x ∈ l, chars_Same.f x.f0 name = some (sm x.f0 name)) :
    Calls Try.prog 22 #[.slice A l.length c, .string name] w fun e w' => e = .returned (.tuple #[.agg #[.string (fd_find l name).1.f0, .int .i64 (fd_find l name).1.f1, .int .i64 (fd_find l name).1.f2, .int .i64 (fd_find l name).1.f3], .bool (fd_find l name).2]) ∧ Below w.heap.size w w' := by
  have hB0 : Below w.heap.size w ((w.alloc (.cells #[.string name] 9)).alloc (.cells #[.string ⟨#[]⟩, .int .i64 0, .int .i64 0, .int .i64 0] 31)) := ((Below.refl _ w).alloc (Nat.le_refl _) _).alloc (by simp) _
  have hN : ((w.alloc (.cells #[.string name] 9)).alloc (.cells #[.string ⟨#[]⟩, .int .i64 0, .int .i64 0, .int .i64 0] 31)).cell? ⟨w.heap.size, 0, none⟩ = some (.string name) := by
    have h1 : (w.alloc (.cells #[.string name] 9)).heap[w.heap.size]? = some (.cells #[.string name] 9 (0, 0)) := heap_alloc_new _ _
    exact blk_cell (blk_alloc h1 _) 0
  have hK : ((w.alloc (.cells #[.string name] 9)).alloc (.cells #[.string ⟨#[]⟩, .int .i64 0, .int .i64 0, .int .i64 0] 31)).heap[w.heap.size + 1]? = some (.cells #[.string ⟨#[]⟩, .int .i64 0, .int .i64 0, .int .i64 0] 31 (0, 0)) := by
    have := heap_alloc_new (w.alloc (.cells #[.string name] 9)) (.cells #[.string ⟨#[]⟩, .int .i64 0, .int .i64 0, .int .i64 0] 31)
    simpa using this
  have HB0 := Aside0.mk hB0
  have HN := Aside0.mk hN
  have HK := Aside0.mk hK
  have HS := Aside0.mk hs
  clear hB0 hN hK hs
  go_enter Try.func22, Try.ntmps22
  go_wp2_with fail
  refine (fd_IndexFunc A c l name w.heap.size _ (Kd.C_below hr HB0.out) hl HN.out HS.out).mono ?_
  rintro e w2 ⟨rfl, hB2⟩
  have hk2 := blk_below HK.out hB2
  have HB2 := Aside0.mk (HB0.out.trans (hB2.mono HB0.out.size))
  have hz0 := blk_cell hk2 0
  have hz1 := blk_cell hk2 1
  have hz2 := blk_cell hk2 2
  have hz3 := blk_cell hk2 3
  have HK2 := Aside0.mk hk2
  have hf0 := blk_frozen hk2 0
  have hf1 := blk_frozen hk2 1
  have hf2 := blk_frozen hk2 2
  have hf3 := blk_frozen hk2 3
  simp at hz0 hz1 hz2 hz3
  clear hB2
  by_cases hx : fx (fun x : S31 => sm x.f0 name) l < l.length
  · have hR : fxr (fun x : S31 => sm x.f0 name) l = ((fx (fun x : S31 => sm x.f0 name) l : Nat) : Int) := if_pos hx
    have hF : fd_find l name = (rd_T31 l ((fx (fun x : S31 => sm x.f0 name) l : Nat) : Int), true) := if_pos hx
    rw [hR]
    have HF := Aside0.mk hF
    clear hF hR
    generalize fx (fun x : S31 => sm x.f0 name) l = k at *
    obtain ⟨ad, e1, hx0, hx1, hx2, hx3⟩ := at_T31 (Kd.C_below hr HB2.out) (k : Int) (by omega) (by omega)
    cases e1
    simp only [Int.toNat_natCast] at hx0 hx1 hx2 hx3
    have hb0 : decide ((k : Int) < 0) = false := decide_eq_false (by omega)
    have hb1 : decide (0 ≤ (k : Int)) = true := decide_eq_true (by omega)
    have hb2 := fd_klt k _ hx
    go_wp2
    (try simp only [Exit.inBlock, Exit.then])
    refine bodyPost_ret (results_ct rfl _ _ (w.heap.size + 1) 31 _ (0, 0) _ rfl (fd_put4 HK2.out) Try.underlying31 rfl (by kernel_rfl)) rfl ?_
    rw [HF.out]
    exact ⟨rfl, below_set (below_set (below_set (below_set HB2.out (by omega)) (by omega)) (by omega)) (by omega)⟩
  · have hR : fxr (fun x : S31 => sm x.f0 name) l = -1 := if_neg hx
    have hF : fd_find l name = (⟨⟨#[]⟩, 0, 0, 0⟩, false) := if_neg hx
    rw [hR]
    have HF := Aside0.mk hF
    clear hF hR
    go_wp2
    (try simp only [Exit.inBlock, Exit.then])
    refine bodyPost_ret (results_ct rfl _ _ (w.heap.size + 1) 31 _ (0, 0) _ rfl (fd_put4 HK2.out) Try.underlying31 rfl (by kernel_rfl)) rfl ?_
    rw [HF.out]
    exact ⟨rfl, below_set (below_set (below_set (below_set HB2.out (by omega)) (by omega)) (by omega)) (by omega)⟩
/-- the body of the first field of a name -/
def fd_value (k : Nat) (l0 : List Int) (l1 : List S31) (name : ByteArray) : Option ByteArray := if (fd_find l1 name).2 = true then chars_Trim.f k (bd_body l0 (fd_find l1 name).1.f2 (fd_find l1 name).1.f3) else some ⟨#[]⟩
set_option maxHeartbeats 4000000 in
theorem fd_Value (A0 : Option Addr) (c0 : Nat) (l0 : List Int) (A : Option Addr) (c : Nat) (l : List S31) (name : ByteArray) (w : World) (k : Nat) (r : ByteArray) (hr0 : Kd.C (Kd.int .u8) w A0 l0.length l0) (hc0 : l0.length ≤ c0) (hl0 : l0.length ≤ 100000) (hr : Kd.C k31 w A l.length l) (hl : l.length ≤ 100000)
    (hs : ∀ x ∈ l, chars_Same.f x.f0 name = some (sm x.f0 name)) (hv : fd_value k l0 l name = some r) :
    Calls Try.prog 9 #[.slice A0 l0.length c0, .slice A l.length c, .string name] w fun e w' => e = .returned (.string r) ∧ Below w.heap.size w w' := by
  have HS := Aside0.mk hs
  have HV := Aside0.mk hv
  clear hs hv
  go_enter Try.func9, Try.ntmps9
  go_wp2_with fail
  refine (fd_Find A c l name _ hr hl HS.out).mono ?_
  rintro e w1 ⟨rfl, hB1⟩
  have hvv := HV.out
  unfold fd_value at hvv
  clear HV
  generalize fd_find l name = q at *
  obtain ⟨⟨q0, q1, q2, q3⟩, is⟩ := q
  have HB1 := Aside0.mk (hB1.alloc hB1.size (.cells #[.string q0, .int .i64 q1, .int .i64 q2, .int .i64 q3] 31))
  clear hB1
  cases is with
  | true =>
    have HV := Aside0.mk (show chars_Trim.f k (bd_body l0 q2 q3) = some r from hvv)
    clear hvv
    go_wp2_with fail
    refine (hd_Body A0 c0 l0 q0 q1 q2 q3 _ k r (Kd.C_below hr0 HB1.out) hc0 hl0 HV.out).mono ?_
    rintro e w2 ⟨rfl, hB2⟩
    have HB2 := Aside0.mk (HB1.out.trans (hB2.mono HB1.out.size))
    clear hB2
    go_wp2
    go_ret
    exact ⟨rfl, HB2.out⟩
  | false =>
    have HV := Aside0.mk (show (⟨#[]⟩ : ByteArray) = r from Option.some.inj hvv)
    clear hvv
    go_wp2
    go_ret
    rw [← HV.out]
    exact ⟨rfl, HB1.out⟩
def fd_fits (l1 : List S31) (n : ByteArray) : Bool := decide (n.size ≤ 9223372036854775807) && l1.all (fun x => decide (x.f0.size ≤ 9223372036854775807))
theorem fd_fits_is {l1 : List S31} {n : ByteArray} (h : fd_fits l1 n = true) : ∀ x ∈ l1, chars_Same.f x.f0 n = some (sm x.f0 n) := by
  unfold fd_fits at h
  rw [Bool.and_eq_true, decide_eq_true_eq, List.all_eq_true] at h
  exact fun x hx => sm_is _ _ (of_decide_eq_true (h.2 x hx)) h.1
def header_Value.f (k : Nat) (l0 : List Int) (l1 : List S31) (a2 : ByteArray) : Option ByteArray := if l0.length ≤ 100000 ∧ l1.length ≤ 100000 ∧ fd_fits l1 a2 = true then fd_value k l0 l1 a2 else none
theorem header_Value.mono : ∀ (y0 : List Int) (y1 : List S31) (y2 : ByteArray) k, LeO (header_Value.f k y0 y1 y2) (header_Value.f (k + 1) y0 y1 y2) := by
  intro y0 y1 y2 k
  unfold header_Value.f
  by_cases h : y0.length ≤ 100000 ∧ y1.length ≤ 100000 ∧ fd_fits y1 y2 = true
  · rw [if_pos h, if_pos h]
    unfold fd_value
    by_cases hq : (fd_find y1 y2).2 = true
    · rw [if_pos hq, if_pos hq]; exact chars_Trim.mono _ _
    · rw [if_neg hq, if_neg hq]; exact LeO.refl _
  · rw [if_neg h, if_neg h]; exact LeO.refl _
theorem header_Value.calls (k : Nat) (A0 : Option Addr) (c0 : Nat) (l0 : List Int) (A1 : Option Addr) (c1 : Nat) (l1 : List S31) (a2 : ByteArray) (r : ByteArray) (w : World) (hr0 : Kd.C (Kd.int .u8) w A0 l0.length l0) (hc0 : l0.length ≤ c0) (hr1 : Kd.C k31 w A1 l1.length l1) (hc1 : l1.length ≤ c1) (h : header_Value.f k l0 l1 a2 = some r) :
    Calls Try.prog 9 #[.slice A0 l0.length c0, .slice A1 l1.length c1, .string a2] w fun e w' => e = .returned (.string r) ∧ Below w.heap.size w w' := by
  unfold header_Value.f at h
  by_cases hl : l0.length ≤ 100000 ∧ l1.length ≤ 100000 ∧ fd_fits l1 a2 = true
  · rw [if_pos hl] at h
    exact fd_Value A0 c0 l0 A1 c1 l1 a2 w k r hr0 hc0 hl.1 hr1 hl.2.1 (fd_fits_is hl.2.2) h
  · rw [if_neg hl] at h
    exact absurd h (by simp)

-- NOT PRINTED: function 30 (slices_IndexFunc_string_string)

-- NOT PRINTED: function 18 (slices_ContainsFunc_string_string)

/-! ### header_Some: function 8 -/
def so_in (l0 : List Int) (x : S31) : Bool := decide (0 ≤ x.f1 ∧ x.f1 ≤ x.f3 ∧ x.f3 ≤ (l0.length : Int))
def so_end (l0 : List Int) (x : S31) : List Int := if x.f3 = x.f1 ∨ rd l0 (x.f3 - 1) ≠ 10 then [13, 10] else []
def so_cut (l0 : List Int) (x : S31) : List Int := (l0.take x.f3.toNat).drop x.f1.toNat
def so_step (l0 : List Int) (l2 : List ByteArray) (but : Bool) (acc : List Int) (x : S31) : List Int :=
  if ((l2.any fun n => sm x.f0 n) == but || !so_in l0 x) = true then acc else acc ++ so_cut l0 x ++ so_end l0 x
def so_all (l0 : List Int) (l1 : List S31) (l2 : List ByteArray) (but : Bool) : List Int := l1.foldl (so_step l0 l2 but) [] ++ [13, 10]
theorem so_info5 : (Try.prog.info? 5).map (fun i => (i.zero, i.size, i.bytes)) = some (some (.int .u8 0), 1, 1) := by kernel_rfl
theorem so_drop (l1 : List S31) (k : Nat) (h : k < l1.length) : l1.drop k = rd_T31 l1 (k : Int) :: l1.drop (k + 1) := by
  rw [List.drop_eq_getElem_cons h]
  congr 1
  unfold rd_T31
  rw [Int.toNat_natCast, List.getD_eq_getElem?_getD, List.getElem?_eq_getElem h]; rfl
theorem so_own {W : World} {base g : Nat} {v : Value} {xs : List Int} {cs : Array Value} (h : Kd.R (Kd.int .u8) 5 W base (fun _ => True) v xs) (hg : W.heap[g]? = some (.cells cs 31 (0, 0))) : some g ≠ v.ownBlock := by
  have ho := Kd.own_of_R h
  rcases ho.2 with ⟨e, _⟩ | ⟨g', cap, cur, e, hq⟩
  · subst e; simp [Value.ownBlock]
  · subst e
    intro hc
    have hc2 : g = g' := by simpa [Value.ownBlock] using hc
    subst hc2
    have := hq.2.1
    rw [hg] at this
    injection this with this
    injection this with _ this _
    exact absurd this (by decide)
theorem so_len2 {acc cut : List Int} {k : Nat} (h : acc.length ≤ k * 100002) (h2 : cut.length ≤ 100000) : (acc ++ cut ++ [13, 10]).length ≤ (k + 1) * 100002 := by
  rw [List.length_append, List.length_append]
  show acc.length + cut.length + 2 ≤ _
  omega
theorem so_len1 {acc cut : List Int} {k : Nat} (h : acc.length ≤ k * 100002) (h2 : cut.length ≤ 100000) : (acc ++ cut).length ≤ (k + 1) * 100002 := by
  rw [List.length_append]
  omega
theorem so_skip {l0 : List Int} {l2 : List ByteArray} {but : Bool} {acc acc' : List Int} {x : S31} {t : List S31} {R : List Int} (h : so_step l0 l2 but acc x = acc') (e : t.foldl (so_step l0 l2 but) (so_step l0 l2 but acc x) = R) : t.foldl (so_step l0 l2 but) acc' = R := h ▸ e
theorem so_meas {n k : Nat} (h : k < n) : n - (intOf (Value.int IntKind.i64 ((k : Int) + 1))).toNat < n - (intOf (Value.int IntKind.i64 (k : Int))).toNat := by
  simp only [intOf]
  omega
set_option maxHeartbeats 8000000 in
theorem so_Some (A0 : Option Addr) (c0 : Nat) (l0 : List Int) (A1 : Option Addr) (c1 : Nat) (l1 : List S31) (A2 : Option Addr) (c2 : Nat) (l2 : List ByteArray) (but : Bool) (w : World)
    (hr0 : Kd.C (Kd.int .u8) w A0 l0.length l0) (hc0 : l0.length ≤ c0) (hl0 : l0.length ≤ 100000) (hr1 : Kd.C k31 w A1 l1.length l1) (hl1 : l1.length ≤ 100000) (hr2 : Kd.C Kd.string w A2 l2.length l2) (hl2 : l2.length ≤ 100000)
    (hs : ∀ x ∈ l1, ∀ n ∈ l2, chars_Same.f x.f0 n = some (sm x.f0 n)) :
    Calls Try.prog 8 #[.slice A0 l0.length c0, .slice A1 l1.length c1, .slice A2 l2.length c2, .bool but] w fun e w' => ∃ v, e = .returned v ∧ Kd.R (Kd.int .u8) 5 w' w.heap.size (fun _ => True) v (so_all l0 l1 l2 but) ∧ Below w.heap.size w w' := by
  have HS := Aside0.mk hs
  clear hs
  go_enter Try.func8, Try.ntmps8
  go_wp2
  go_loopw [9, 15] (fun v i wr => ∃ (k : Nat) (acc : List Int), k ≤ l1.length ∧ i = .int .i64 (k : Int) ∧ Aside0 (Kd.R (Kd.int .u8) 5 wr w.heap.size (fun _ => True) v acc) ∧ Aside0 (Below w.heap.size w wr) ∧ Aside0 ((l1.drop k).foldl (so_step l0 l2 but) acc = l1.foldl (so_step l0 l2 but) []) ∧ Aside0 (acc.length ≤ k * 100002)) (fun v i _ => l1.length - (intOf i).toNat)
  case atStart => exact ⟨0, [], Nat.zero_le _, rfl, ⟨Kd.R_nil _ _ _ _ _⟩, ⟨Below.refl _ _⟩, ⟨rfl⟩, ⟨by simp⟩⟩
  case round =>
    obtain ⟨k, acc, hk, rfl, hR, hB, hF, hL⟩ := hrel
    obtain ⟨Ao, co, rfl⟩ := Kd.R_slice hR.out
    by_cases hlt : k < l1.length
    · have hb := fd_klt k _ hlt
      obtain ⟨ad, e1, hx0, hx1, hx2, hx3⟩ := at_T31 (Kd.C_below hr1 hB.out) (k : Int) (by omega) (by omega)
      cases e1
      simp only [Int.toNat_natCast] at hx0 hx1 hx2 hx3
      have HM := Aside0.mk (HS.out _ (rd31_mem l1 k hlt))
      have hF2 := hF.out
      rw [so_drop l1 k hlt, List.foldl_cons] at hF2
      generalize rd_T31 l1 (k : Int) = x at *
      have HF2 := Aside0.mk hF2
      clear hF hF2
      have hBA := hB.out.alloc hB.out.size (.cells #[.string x.f0, .int .i64 x.f1, .int .i64 x.f2, .int .i64 x.f3] 31)
      have hNA := heap_alloc_new wr (.cells #[.string x.f0, .int .i64 x.f1, .int .i64 x.f2, .int .i64 x.f3] 31)
      have HRA := Aside0.mk (Kd.R_alloc hR.out (.cells #[.string x.f0, .int .i64 x.f1, .int .i64 x.f2, .int .i64 x.f3] 31))
      have HBA := Aside0.mk hBA
      have HNA := Aside0.mk hNA
      clear hBA hNA
      go_wp2_with fail
      refine (fd_ContainsFunc A2 c2 l2 x wr.heap.size _ (Kd.C_below hr2 HBA.out) hl2 (blk_cell HNA.out 0) HM.out).mono ?_
      rintro e w2 ⟨rfl, hB2⟩
      have HB2 := Aside0.mk (HBA.out.trans (hB2.mono HBA.out.size))
      have HR2 := Aside0.mk (Kd.R_below HRA.out hB2)
      have hN2 := blk_below HNA.out hB2
      have hz1 := blk_cell hN2 1
      have hz3 := blk_cell hN2 3
      simp at hz1 hz3
      have HN2 := Aside0.mk hN2
      clear hB2 hN2
      have hst : so_step l0 l2 but acc x = if ((l2.any fun n => sm x.f0 n) == but || !so_in l0 x) = true then acc else acc ++ so_cut l0 x ++ so_end l0 x := rfl
      generalize (l2.any fun n => sm x.f0 n) = inb at *
      cases he : (inb == but) with
      | true =>
        have HFF := Aside0.mk (so_skip (show so_step l0 l2 but acc x = acc from by rw [hst, he]; rfl) HF2.out)
        have HLL := Aside0.mk (show acc.length ≤ (k + 1) * 100002 from Nat.le_trans hL.out (Nat.mul_le_mul_right _ (Nat.le_succ k)))
        clear hst
        go_wp2_with fail
        exact ⟨⟨k + 1, acc, by omega, by go_num, HR2, HB2, HFF, HLL⟩, so_meas hlt⟩
      | false =>
        rw [he, Bool.false_or] at hst
        cases hin : so_in l0 x with
        | false =>
          have HFF := Aside0.mk (so_skip (show so_step l0 l2 but acc x = acc from by rw [hst, hin]; rfl) HF2.out)
          have HLL := Aside0.mk (show acc.length ≤ (k + 1) * 100002 from Nat.le_trans hL.out (Nat.mul_le_mul_right _ (Nat.le_succ k)))
          have HD := Aside0.mk (show decide (0 ≤ x.f1 ∧ x.f1 ≤ x.f3 ∧ x.f3 ≤ (l0.length : Int)) = false from hin)
          clear hst hin
          go_wp2_with fail
          refine (callsIn_wide.1 (ln_Within Fence.wide 1 trivial rfl _ _ l0.length _)).mono ?_
          rw [HD.out]
          rintro e w3 ⟨rfl, hB3⟩
          have HB3 := Aside0.mk (HB2.out.trans (hB3.mono HB2.out.size))
          have HR3 := Aside0.mk (Kd.R_below HR2.out hB3)
          clear hB3
          go_wp2_with fail
          exact ⟨⟨k + 1, acc, by omega, by go_num, HR3, HB3, HFF, HLL⟩, so_meas hlt⟩
        | true =>
          have HD := Aside0.mk (show decide (0 ≤ x.f1 ∧ x.f1 ≤ x.f3 ∧ x.f3 ≤ (l0.length : Int)) = true from hin)
          have hin' := of_decide_eq_true HD.out
          have HST := Aside0.mk (show so_step l0 l2 but acc x = acc ++ so_cut l0 x ++ so_end l0 x from by rw [hst, hin]; rfl)
          clear hst hin
          go_wp2_with fail
          refine (callsIn_wide.1 (ln_Within Fence.wide 1 trivial rfl _ _ l0.length _)).mono ?_
          rw [HD.out]
          rintro e w3 ⟨rfl, hB3⟩
          have HB3 := Aside0.mk (HB2.out.trans (hB3.mono HB2.out.size))
          have HR3 := Aside0.mk (Kd.R_below HR2.out hB3)
          have hN3 := blk_below HN2.out hB3
          have hy1 := blk_cell hN3 1
          have hy3 := blk_cell hN3 3
          simp at hy1 hy3
          have HN3 := Aside0.mk hN3
          clear hB3 hN3 hz1 hz3
          obtain ⟨i05, hi05, _, hsz5, _⟩ := info_parts so_info5
          have hcut := cut_mid (P := Try.prog) 22 5 .i64 .i64 Try.underlying22 hi05 1 hsz5 A0 l0.length c0 x.f1 x.f3 hin'.1 hin'.2.1 hin'.2.2 hc0
          have hC3 := Kd.C_mid (Kd.C_below hr0 HB3.out) (lo := x.f1.toNat) (hi := x.f3.toNat) (by omega) (by omega) hc0
          rw [show (Kd.int .u8).sz = 1 from rfl] at hC3
          have hcl : ((l0.take x.f3.toNat).drop x.f1.toNat).length = x.f3.toNat - x.f1.toNat := by rw [List.length_drop, List.length_take]; omega
          have hlc : (so_cut l0 x).length ≤ 100000 := by unfold so_cut; omega
          rw [hcl] at hC3
          have hm3 : (so_cut l0 x).length = x.f3.toNat - x.f1.toNat := hcl
          have HX := Aside0.mk hin'
          generalize (if c0 = x.f1.toNat then A0 else A0.map (·.add (x.f1.toNat * 1))) = A3 at *
          generalize c0 - x.f1.toNat = c3 at *
          have hC3' : Kd.C (Kd.int .u8) w3 A3 (x.f3.toNat - x.f1.toNat) (so_cut l0 x) := hC3
          rw [← hm3] at hC3' hcut
          clear hC3
          have HC3 := Aside0.mk hC3'
          have HLC := Aside0.mk hlc
          clear hC3' hcl hlc hm3 hi05 hsz5
          have hR3 := HR3.out
          generalize hcc : so_cut l0 x = cut at *
          have HCC := Aside0.mk hcc
          clear hcc hR3
          have HSZ := Aside0.mk (show (acc.length + cut.length) * 1 ≤ 140737488355328 from by have := hL.out; have := HLC.out; omega)
          have HSZ2 := Aside0.mk (show (acc ++ cut).length + 2 ≤ 140737488355328 from by rw [List.length_append]; have := hL.out; have := HLC.out; omega)
          have hlen2 := so_len2 hL.out HLC.out
          have hlen1 := so_len1 hL.out HLC.out
          obtain ⟨D, hD⟩ : ∃ D, acc ++ cut = D := ⟨_, rfl⟩
          rw [hD] at hlen1 hlen2 HST HSZ2
          have HD2 := Aside0.mk hD
          clear hD
          by_cases h31 : x.f3 = x.f1
          · have hEnd : so_end l0 x = [13, 10] := if_pos (.inl h31)
            rw [hEnd] at HST
            have HFF := Aside0.mk (so_skip HST.out HF2.out)
            have HLL := Aside0.mk hlen2
            have HAT := Aside0.mk (show ∀ w4, Below w.heap.size w w4 → True from fun _ _ => trivial)
            clear hEnd hlen1 hlen2
            obtain ⟨x0, x1, x2, x3⟩ := x
            dsimp only at *
            subst h31
            go_wp2_with (first | ((with_reducible refine gate_builtin (b := .append) (xs := #[.tmp 36, .tmp 42]) rfl ?_); at_builtin; refine Kd.R_append_rows (Kd.int .u8) (w0 := w) w.heap.size rfl (.tmp 36) (.tmp 42) 22 5 (.int .u8 0) 1 rfl Try.underlying22 so_info5 rfl (by decide) (by omega) (.slice Ao acc.length co) acc cut _ _ _ (fun _ => True) (fun _ => False) rfl rfl ?aO ?aR (fun _ _ h => h) (fun _ h => h.elim) ?aF ?aB ?aS ?aL ?_; (case aO => exact HR3.out); (case aR => exact HC3.out); (case aF => exact fun _ _ => trivial); (case aB => exact HB3.out); (case aS => exact HB3.out.size); (case aL => exact HSZ.out); intro v4 w4 ho4 hb4 hg4 hat4; rw [HD2.out] at ho4; obtain ⟨Ao4, co4, rfl⟩ := Kd.R_slice ho4; have HO4 := Aside0.mk ho4; have HB4 := Aside0.mk hb4; have hN4 := blk_grown HN3.out hg4 (so_own HR3.out HN3.out); have HN4 := Aside0.mk hN4; have hu1 := blk_cell hN4 1; have hu3 := blk_cell hN4 3; simp at hu1 hu3; have hC4 := HAT.out w4 hb4; clear ho4 hb4 hg4 hat4 hN4) | ((with_reducible refine gate_builtin (b := .append) (xs := #[.tmp 58, .const (.string ⟨#[13, 10]⟩)]) rfl ?_); at_builtin; refine print_append_str (w0 := w) w.heap.size rfl (.tmp 58) (.const (.string ⟨#[13, 10]⟩)) 22 9 5 rfl Try.underlying22 Try.underlying9 so_info5 (.slice Ao4 D.length co4) D ⟨#[13, 10]⟩ rfl rfl (Kd.own_of_R HO4.out) HB4.out HB4.out.size ?aM ?_; (case aM => exact HSZ2.out); intro v5 w5 ho5 hb5 hg5; have HO5 := Aside0.mk (show Kd.R (Kd.int .u8) 5 w5 w.heap.size (fun _ => True) v5 (D ++ [13, 10]) from Kd.R_of_own ho5 (fun _ _ => trivial)); have HB5 := Aside0.mk hb5; clear ho5 hb5 hg5))
            exact ⟨⟨k + 1, D ++ [13, 10], by omega, by go_num, HO5, HB5, HFF, HLL⟩, so_meas hlt⟩
          · have h1 : x.f1 < x.f3 := by omega
            have hAT : ∀ w4, Below w.heap.size w w4 → ∃ ad, A0 = some ad ∧ w4.cell? (ad.add (x.f3 - 1).toNat) = some (.int .u8 (rd l0 (x.f3 - 1))) := fun w4 hb => Kd.at_int (Kd.C_below hr0 hb) (x.f3 - 1) (by omega) (by omega)
            obtain ⟨a0, rfl, _⟩ := hAT w (Below.refl _ _)
            have HAT := Aside0.mk (show ∀ w4, Below w.heap.size w w4 → w4.cell? (a0.add (x.f3.toNat - 1)) = some (.int .u8 (rd l0 (x.f3 - 1))) from fun w4 hb => by
              obtain ⟨ad', e, hc⟩ := hAT w4 hb
              cases e
              rw [show x.f3.toNat - 1 = (x.f3 - 1).toNat by omega]; exact hc)
            have hb1 : decide (0 ≤ x.f3 - 1) = true := decide_eq_true (by omega)
            have hb2 : decide (x.f3 - 1 < (l0.length : Int)) = true := decide_eq_true (by omega)
            have hne := h31
            clear hAT
            by_cases h10 : rd l0 (x.f3 - 1) = 10
            · have hEnd : so_end l0 x = [] := if_neg (by rintro (h | h); exact h31 h; exact h h10)
              rw [hEnd, List.append_nil] at HST
              have HFF := Aside0.mk (so_skip HST.out HF2.out)
              have HLL := Aside0.mk hlen1
              rw [h10] at HAT
              clear hEnd hlen1 hlen2 h10
              go_wp2_with (first | ((with_reducible refine gate_builtin (b := .append) (xs := #[.tmp 36, .tmp 42]) rfl ?_); at_builtin; refine Kd.R_append_rows (Kd.int .u8) (w0 := w) w.heap.size rfl (.tmp 36) (.tmp 42) 22 5 (.int .u8 0) 1 rfl Try.underlying22 so_info5 rfl (by decide) (by omega) (.slice Ao acc.length co) acc cut _ _ _ (fun _ => True) (fun _ => False) rfl rfl ?aO ?aR (fun _ _ h => h) (fun _ h => h.elim) ?aF ?aB ?aS ?aL ?_; (case aO => exact HR3.out); (case aR => exact HC3.out); (case aF => exact fun _ _ => trivial); (case aB => exact HB3.out); (case aS => exact HB3.out.size); (case aL => exact HSZ.out); intro v4 w4 ho4 hb4 hg4 hat4; rw [HD2.out] at ho4; obtain ⟨Ao4, co4, rfl⟩ := Kd.R_slice ho4; have HO4 := Aside0.mk ho4; have HB4 := Aside0.mk hb4; have hN4 := blk_grown HN3.out hg4 (so_own HR3.out HN3.out); have HN4 := Aside0.mk hN4; have hu1 := blk_cell hN4 1; have hu3 := blk_cell hN4 3; simp at hu1 hu3; have hC4 := HAT.out w4 hb4; clear ho4 hb4 hg4 hat4 hN4) | ((with_reducible refine gate_builtin (b := .append) (xs := #[.tmp 58, .const (.string ⟨#[13, 10]⟩)]) rfl ?_); at_builtin; refine print_append_str (w0 := w) w.heap.size rfl (.tmp 58) (.const (.string ⟨#[13, 10]⟩)) 22 9 5 rfl Try.underlying22 Try.underlying9 so_info5 (.slice Ao4 D.length co4) D ⟨#[13, 10]⟩ rfl rfl (Kd.own_of_R HO4.out) HB4.out HB4.out.size ?aM ?_; (case aM => exact HSZ2.out); intro v5 w5 ho5 hb5 hg5; have HO5 := Aside0.mk (show Kd.R (Kd.int .u8) 5 w5 w.heap.size (fun _ => True) v5 (D ++ [13, 10]) from Kd.R_of_own ho5 (fun _ _ => trivial)); have HB5 := Aside0.mk hb5; clear ho5 hb5 hg5))
              exact ⟨⟨k + 1, D, by omega, by go_num, HO4, HB4, HFF, HLL⟩, so_meas hlt⟩
            · have hEnd : so_end l0 x = [13, 10] := if_pos (.inr h10)
              rw [hEnd] at HST
              have HFF := Aside0.mk (so_skip HST.out HF2.out)
              have HLL := Aside0.mk hlen2
              clear hEnd hlen1 hlen2
              go_wp2_with (first | ((with_reducible refine gate_builtin (b := .append) (xs := #[.tmp 36, .tmp 42]) rfl ?_); at_builtin; refine Kd.R_append_rows (Kd.int .u8) (w0 := w) w.heap.size rfl (.tmp 36) (.tmp 42) 22 5 (.int .u8 0) 1 rfl Try.underlying22 so_info5 rfl (by decide) (by omega) (.slice Ao acc.length co) acc cut _ _ _ (fun _ => True) (fun _ => False) rfl rfl ?aO ?aR (fun _ _ h => h) (fun _ h => h.elim) ?aF ?aB ?aS ?aL ?_; (case aO => exact HR3.out); (case aR => exact HC3.out); (case aF => exact fun _ _ => trivial); (case aB => exact HB3.out); (case aS => exact HB3.out.size); (case aL => exact HSZ.out); intro v4 w4 ho4 hb4 hg4 hat4; rw [HD2.out] at ho4; obtain ⟨Ao4, co4, rfl⟩ := Kd.R_slice ho4; have HO4 := Aside0.mk ho4; have HB4 := Aside0.mk hb4; have hN4 := blk_grown HN3.out hg4 (so_own HR3.out HN3.out); have HN4 := Aside0.mk hN4; have hu1 := blk_cell hN4 1; have hu3 := blk_cell hN4 3; simp at hu1 hu3; have hC4 := HAT.out w4 hb4; clear ho4 hb4 hg4 hat4 hN4) | ((with_reducible refine gate_builtin (b := .append) (xs := #[.tmp 58, .const (.string ⟨#[13, 10]⟩)]) rfl ?_); at_builtin; refine print_append_str (w0 := w) w.heap.size rfl (.tmp 58) (.const (.string ⟨#[13, 10]⟩)) 22 9 5 rfl Try.underlying22 Try.underlying9 so_info5 (.slice Ao4 D.length co4) D ⟨#[13, 10]⟩ rfl rfl (Kd.own_of_R HO4.out) HB4.out HB4.out.size ?aM ?_; (case aM => exact HSZ2.out); intro v5 w5 ho5 hb5 hg5; have HO5 := Aside0.mk (show Kd.R (Kd.int .u8) 5 w5 w.heap.size (fun _ => True) v5 (D ++ [13, 10]) from Kd.R_of_own ho5 (fun _ _ => trivial)); have HB5 := Aside0.mk hb5; clear ho5 hb5 hg5))
              exact ⟨⟨k + 1, D ++ [13, 10], by omega, by go_num, HO5, HB5, HFF, HLL⟩, so_meas hlt⟩
              rename_i hq
              exact absurd (bne_eq_false_iff_eq.1 hq.2) h10
    · have hb := fd_kge k _ hlt
      have HF2 := Aside0.mk (show acc = l1.foldl (so_step l0 l2 but) [] from by have := hF.out; rw [List.drop_eq_nil_of_le (by omega)] at this; exact this)
      go_wp2_with ((with_reducible refine gate_builtin (b := .append) (xs := #[.tmp 61, .const (.string ⟨#[13, 10]⟩)]) rfl ?_); at_builtin; refine print_append_str (w0 := w) w.heap.size rfl (.tmp 61) (.const (.string ⟨#[13, 10]⟩)) 22 9 5 rfl Try.underlying22 Try.underlying9 so_info5 (.slice Ao acc.length co) acc ⟨#[13, 10]⟩ rfl rfl (Kd.own_of_R hR.out) hB.out hB.out.size ?aL ?_; (case aL => (have := hL.out; show acc.length + 2 ≤ _; omega)); intro v1 w1 ho1 hb1 hg1; have HO1 := Aside0.mk (show Kd.R (Kd.int .u8) 5 w1 w.heap.size (fun _ => True) v1 (acc ++ [13, 10]) from Kd.R_of_own ho1 (fun _ _ => trivial)); have HB1 := Aside0.mk hb1; clear ho1 hb1 hg1)
      go_ret
      refine ⟨_, rfl, ?_, HB1.out⟩
      unfold so_all
      rw [← HF2.out]
      exact HO1.out
def header_Some.f (l0 : List Int) (l1 : List S31) (l2 : List ByteArray) (a3 : Bool) : Option (List Int) := if l0.length ≤ 100000 ∧ l1.length ≤ 100000 ∧ l2.length ≤ 100000 ∧ l2.all (fun n => fd_fits l1 n) = true then some (so_all l0 l1 l2 a3) else none
theorem header_Some.calls (A0 : Option Addr) (c0 : Nat) (l0 : List Int) (A1 : Option Addr) (c1 : Nat) (l1 : List S31) (A2 : Option Addr) (c2 : Nat) (l2 : List ByteArray) (a3 : Bool) (r1 : List Int) (w : World) (hr0 : Kd.C (Kd.int .u8) w A0 l0.length l0) (hc0 : l0.length ≤ c0) (hr1 : Kd.C k31 w A1 l1.length l1) (hc1 : l1.length ≤ c1) (hr2 : Kd.C Kd.string w A2 l2.length l2) (hc2 : l2.length ≤ c2) (h : header_Some.f l0 l1 l2 a3 = some r1) :
    Calls Try.prog 8 #[.slice A0 l0.length c0, .slice A1 l1.length c1, .slice A2 l2.length c2, .bool a3] w fun e w' => ∃ v0_, e = .returned v0_ ∧ Kd.R (Kd.int .u8) 5 w' w.heap.size (fun _ => True) v0_ r1 ∧ Below w.heap.size w w' := by
  unfold header_Some.f at h
  by_cases hl : l0.length ≤ 100000 ∧ l1.length ≤ 100000 ∧ l2.length ≤ 100000 ∧ l2.all (fun n => fd_fits l1 n) = true
  · rw [if_pos hl] at h
    obtain rfl := Option.some.inj h
    exact so_Some A0 c0 l0 A1 c1 l1 A2 c2 l2 a3 w hr0 hc0 hl.1 hr1 hl.2.1 hr2 hl.2.2.1 (fun x hx n hn => fd_fits_is (List.all_eq_true.1 hl.2.2.2 n hn) x hx)
  · rw [if_neg hl] at h
    exact absurd h (by simp)

/-! ### letterboxlaw06_awake: function 5 -/
set_option maxHeartbeats 4000000 in
theorem aw_walk (w : World) : Calls Try.prog 5 #[] w fun e w' => e = .returned (.bool true) ∧ Below w.heap.size w w' := by
  have kc := fun (w : World) (C : Array Value) (n c : Nat) => Lib.run_convert_bytes_const (P := Try.prog) w 22 5 C n c Try.underlying22 Try.underlying5
  go_enter Try.func5, Try.ntmps5
  go_wp2_with fail
  refine (header_Of.calls 30 (some ⟨w.heap.size, 0, none⟩) 10 [65, 58, 32, 98, 10, 32, 99, 10, 10, 120] 0 10 [⟨⟨#[65]⟩, 0, 2, 8⟩] 9 _ (Aids.const_C _ (by decide) (heap_alloc_new _ _)) (by decide) (by kernel_rfl)).mono ?_
  rintro e w1 ⟨v1, rfl, hR1, hb1⟩
  obtain ⟨A1, cc1, rfl⟩ := Kd.R_slice hR1
  obtain ⟨ad, e1, hx0, hx1, hx2, hx3⟩ := at_T31 (Kd.R_reads' hR1).2.2 0 (by decide) (by decide)
  cases e1
  have hB0 := below_alloc (Below.refl w.heap.size w) (.cells #[.int .u8 65, .int .u8 58, .int .u8 32, .int .u8 98, .int .u8 10, .int .u8 32, .int .u8 99, .int .u8 10, .int .u8 10, .int .u8 120] 5 (10, 11))
  have hC0 : Kd.C (Kd.int .u8) (w.alloc (.cells #[.int .u8 65, .int .u8 58, .int .u8 32, .int .u8 98, .int .u8 10, .int .u8 32, .int .u8 99, .int .u8 10, .int .u8 10, .int .u8 120] 5 (10, 11))) (some ⟨w.heap.size, 0, none⟩) 10 [65, 58, 32, 98, 10, 32, 99, 10, 10, 120] := Aids.const_C [65, 58, 32, 98, 10, 32, 99, 10, 10, 120] (by decide) (heap_alloc_new _ _)
  have HC1 := Aside0.mk (Kd.C_below hC0 hb1)
  have HR1 := Aside0.mk (Kd.R_reads' hR1).2.2
  have HCAP := Aside0.mk (Kd.R_reads' hR1).2.1
  have HB1 := Aside0.mk (hB0.trans (hb1.mono (by simp)))
  have e0 : ad.add (Int.toNat 0 * 4) = ad := by unfold Addr.add; rfl
  rw [e0] at hx0 hx1 hx2 hx3
  have hy0 : w1.cell? ad = some (.string ⟨#[65]⟩) := hx0
  have hy1 : w1.cell? ⟨ad.block, ad.off + 1, none⟩ = some (.int .i64 0) := hx1
  have hy2 : w1.cell? ⟨ad.block, ad.off + 2, none⟩ = some (.int .i64 2) := hx2
  have hy3 : w1.cell? ⟨ad.block, ad.off + 3, none⟩ = some (.int .i64 8) := hx3
  clear hx0 hx1 hx2 hx3 hR1 hb1 hB0 hC0 e0
  go_wp2_with fail
  refine (header_Body.calls 30 (some ⟨w.heap.size, 0, none⟩) 10 [65, 58, 32, 98, 10, 32, 99, 10, 10, 120] ⟨#[65]⟩ 0 2 8 ⟨#[98, 32, 99]⟩ _ HC1.out (by decide) (by kernel_rfl)).mono ?_
  rintro e w2 ⟨rfl, hb2⟩
  have HC2 := Aside0.mk (Kd.C_below HC1.out hb2)
  have HR2 := Aside0.mk (Kd.C_below HR1.out hb2)
  have HB2 := Aside0.mk (HB1.out.trans (hb2.mono HB1.out.size))
  clear hb2
  go_wp2_with fail
  refine (header_Value.calls 30 (some ⟨w.heap.size, 0, none⟩) 10 [65, 58, 32, 98, 10, 32, 99, 10, 10, 120] (some ad) cc1 [⟨⟨#[65]⟩, 0, 2, 8⟩] ⟨#[97]⟩ ⟨#[98, 32, 99]⟩ _ HC2.out (by decide) HR2.out ?hcap (by kernel_rfl)).mono ?_
  case hcap => exact HCAP.out
  rintro e w3 ⟨rfl, hb3⟩
  have HC3 := Aside0.mk (Kd.C_below HC2.out hb3)
  have HR3 := Aside0.mk (Kd.C_below HR2.out hb3)
  have HB3 := Aside0.mk (HB2.out.trans (hb3.mono HB2.out.size))
  clear hb3
  go_wp2_with fail
  have hS : Kd.C Kd.string (w3.alloc (.cells #[.string ⟨#[97]⟩] 9)) (some ⟨w3.heap.size, 0, none⟩) 1 [(⟨#[97]⟩ : ByteArray)] := by
    have hg : (w3.alloc (.cells #[.string ⟨#[97]⟩] 9)).heap[w3.heap.size]? = some (.cells #[.string ⟨#[97]⟩] 9 (0, 0)) := heap_alloc_new _ _
    refine Kd.C_of_reads (d := ByteArray.empty) (h1 := fun _ => rfl) ?_
    refine ⟨rfl, by decide, fun _ => ⟨_, rfl, fun j hj => ?_⟩⟩
    obtain rfl : j = 0 := by simp at hj; omega
    rw [add_plain, cell_of_row _ _ _ _ _ _ hg]
    rfl
  have hb4 := below_alloc (Below.refl w3.heap.size w3) (.cells #[.string ⟨#[97]⟩] 9)
  have HB4 := Aside0.mk (HB3.out.trans (hb4.mono HB3.out.size))
  refine (header_Some.calls (some ⟨w.heap.size, 0, none⟩) 10 [65, 58, 32, 98, 10, 32, 99, 10, 10, 120] (some ad) cc1 [⟨⟨#[65]⟩, 0, 2, 8⟩] (some ⟨w3.heap.size, 0, none⟩) 1 [⟨#[97]⟩] false [65, 58, 32, 98, 10, 32, 99, 10, 13, 10] _ (Kd.C_below HC3.out hb4) (by decide) (Kd.C_below HR3.out hb4) HCAP.out hS (by decide) (by kernel_rfl)).mono ?_
  rintro e w5 ⟨v5, rfl, hR5, hb5⟩
  obtain ⟨A5, cc5, rfl⟩ := Kd.R_slice hR5
  have hcv := Kd.C_string (P := Try.prog) (A := A5) (c := cc5) Try.underlying22 Try.underlying5 Try.underlying9 (Kd.R_reads' hR5).2.2
  have HB5 := Aside0.mk (HB4.out.trans (hb5.mono HB4.out.size))
  have es : strOfNums [65, 58, 32, 98, 10, 32, 99, 10, 13, 10] = ⟨#[65, 58, 32, 98, 10, 32, 99, 10, 13, 10]⟩ := by kernel_rfl
  rw [es] at hcv
  simp only [List.length_cons, List.length_nil, Nat.reduceAdd] at hcv
  clear hR5 hb5 hb4 hS es
  go_wp2
  go_ret
  exact ⟨rfl, HB5.out⟩
def letterboxlaw06_awake.f : Option Bool := some true
theorem letterboxlaw06_awake.calls (r : Bool) (w : World) (h : letterboxlaw06_awake.f = some r) :
    Calls Try.prog 5 #[] w fun e w' => e = .returned (.bool r) ∧ Below w.heap.size w w' := by
  obtain rfl := Option.some.inj h
  exact aw_walk w

end Go.Proofs.Ytckmfmfhhojmfaa.P
