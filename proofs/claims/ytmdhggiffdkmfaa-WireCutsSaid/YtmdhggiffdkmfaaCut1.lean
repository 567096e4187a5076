/- Lines and their ends: what the framer's small functions tell of any bytes. -/
import Derived.Test.YtmdhggiffdkmfaaWire3
import Derived.Test.YtmdhggiffdkmfaaPx1
set_option linter.unusedVariables false
set_option linter.unusedSimpArgs false
set_option linter.unusedSectionVars false
namespace Go.Proofs.Ytmdhggiffdkmfaa.Chars
open Go.RowKit Go.Proofs.Ytmdhggiffdkmfaa.P Go.Proofs.YtmdhggiffdkmfaaW.PrintWords Go.Proofs.YtmdhggiffdkmfaaW.PrintLast Go.Proofs.YtmdhggiffdkmfaaW.PrintMore Go.Proofs.Ytmdhggiffdkmfaa.Aids
theorem cutSuf (D : List Int) (hb : byte D) (hl : D.length ≤ 100000) : ∃ D' f, byte D' ∧ D'.length ≤ D.length ∧ strings_CutSuffix.f (strOfNums D) (⟨#[43]⟩ : ByteArray) = some (strOfNums D', f) := by
  have k43 : (⟨#[43]⟩ : ByteArray) = strOfNums [43] := rfl
  have hs : ∃ f, stringslite_HasSuffix.f (strOfNums D) (strOfNums [43]) = some f ∧ (f = true → 1 ≤ D.length) := by
    unfold stringslite_HasSuffix.f
    rw [strOfNums_size, strOfNums_size]
    by_cases h : 1 ≤ D.length
    · have e1 : wrap64 ((D.length : Int) - (([43] : List Int).length : Int)) = ((D.length - 1 : Nat) : Int) := by
        show wrap64 ((D.length : Int) - 1) = _
        rw [w64 (by omega) (by omega)]; omega
      rw [e1, if_pos (by simp; omega), if_pos (by omega), if_pos (by omega)]
      exact ⟨_, rfl, fun _ => h⟩
    · rw [if_neg (by simp; omega)]
      exact ⟨_, rfl, fun h => by cases h⟩
  obtain ⟨f, hf, h1⟩ := hs
  unfold strings_CutSuffix.f stringslite_CutSuffix.f
  rw [k43, hf, Option.bind_some]
  cases f with
  | false => exact ⟨D, false, hb, Nat.le_refl _, rfl⟩
  | true =>
    have h1 := h1 rfl
    have e1 : wrap64 (((strOfNums D).size : Int) - ((strOfNums [43]).size : Int)) = ((D.length - 1 : Nat) : Int) := by
      rw [strOfNums_size, strOfNums_size]
      show wrap64 ((D.length : Int) - 1) = _
      rw [w64 (by omega) (by omega)]; omega
    rw [if_pos rfl, e1, if_pos (by omega), if_pos (by rw [strOfNums_size]; omega), Int.toNat_natCast, str_extract, List.drop_zero]
    exact ⟨D.take (D.length - 1), true, byte_take hb _, by simp, rfl⟩
theorem numL_ge : ∀ (l : List Int) (n m : Int), 0 ≤ n → numL l n = some m → 0 ≤ m
  | [], n, m, hn, h => by injection h with h; omega
  | c :: t, n, m, hn, h => by
    rw [numL] at h
    split at h
    · cases h
    · split at h
      · cases h
      · exact numL_ge t _ m (by omega) h
theorem number_ge (l : List Int) : 0 ≤ (number l).1 := by
  unfold number
  split
  · exact Int.le_refl _
  · cases h : numL l 0 with
    | none => exact Int.le_refl _
    | some m =>
      have := numL_ge l 0 m (Int.le_refl _) h
      unfold asNum; simp only; split
      · exact Int.le_refl _
      · exact this
theorem head_any (L : List Int) (hb : byte L) (hl : L.length ≤ 100000) : ∃ h n w, 0 ≤ n ∧ Ev (fun k => wire_head.f k (strOfNums L)) (h, n, w) := by
  by_cases h : tilde L = [] ∨ rd (tilde L) 0 ≠ 123
  · exact ⟨0, 0, false, Int.le_refl _, head_none L hb h⟩
  · have h0 : tilde L ≠ [] := fun e => h (.inl e)
    have h1 : rd (tilde L) 0 = 123 := by
      by_cases e : rd (tilde L) 0 = 123
      · exact e
      · exact absurd (.inr e) h
    have hB := tilde_byte L hb
    have htl : (tilde L).length ≤ L.length := by unfold tilde; split <;> simp
    have hp : 0 < (tilde L).length := List.length_pos_iff.2 h0
    have start : ∀ r, Ev (fun k => wire_head.j0 k (strOfNums L) (strOfNums (tilde L)) false) r → Ev (fun k => wire_head.f k (strOfNums L)) r := by
      intro r hr
      unfold wire_head.f
      rw [trimPre L hb]
      refine bs (no (fun e => h0 (by rwa [toList_nil, bytes_str _ hB] at e)) (yes (by rw [strOfNums_size]; omega) ?_))
      rw [str_bt _ hB, h1]; exact hr
    by_cases hx : ix 125 (tilde L) < (tilde L).length
    · have hx1 : 1 ≤ ix 125 (tilde L) := by
        cases ht : tilde L with
        | nil => exact absurd ht h0
        | cons c t =>
          have hc : c = 123 := by rw [ht] at h1; exact h1
          rw [ix, if_neg (by omega)]; omega
      obtain ⟨D', f, hD', hDl, hcut⟩ := cutSuf (((tilde L).take (ix 125 (tilde L))).drop 1) (byte_drop (byte_take hB _) _) (by simp; omega)
      have hDq : (((tilde L).take (ix 125 (tilde L))).drop 1).length ≤ 100000 := by rw [List.length_drop, List.length_take]; omega
      have hD'l : D'.length ≤ 1000000 := by omega
      have hnum := numbered D' hD' hD'l
      have hge := number_ge D'
      generalize number D' = q at hnum hge
      obtain ⟨n, is⟩ := q
      have body : ∀ r, Ev (fun k => (if is = true then some (wrap64 (wrap64 (wrap64 (((strOfNums L).size : Int) - ((strOfNums (tilde L)).size : Int)) + (ix 125 (tilde L) : Int)) + 1), n, !f) else some (0, 0, false))) r → Ev (fun k => wire_head.f k (strOfNums L)) r := by
        intro r hr
        refine start r (st (fun k => by rw [wire_head.j0]) (no (by decide) ?_))
        rw [indexed 125 (by decide) _ hB, if_pos hx]
        refine bs (no (by omega) (yes (by omega) (yes (by rw [strOfNums_size]; omega) ?_)))
        rw [Int.toNat_natCast, str_extract, hcut]
        exact bs (bnd hnum hr)
      cases is with
      | true => exact ⟨_, n, _, hge, body _ (yes rfl (fin rfl))⟩
      | false => exact ⟨0, 0, false, Int.le_refl _, body _ (no (by decide) (fin rfl))⟩
    · refine ⟨0, 0, false, Int.le_refl _, start _ (st (fun k => by rw [wire_head.j0]) (no (by decide) ?_))⟩
      rw [indexed 125 (by decide) _ hB, if_neg hx]
      exact bs (yes (by decide) (fin rfl))
theorem last_any (L : List Int) (hb : byte L) (hl : L.length ≤ 100000) : ∃ i : Int, i < (L.length : Int) ∧ Ev (fun k => strings_LastIndexByte.f k (strOfNums L) 123) i := by
  have main : ∀ n : Nat, n ≤ L.length → ∃ i : Int, i < (L.length : Int) ∧ Ev (fun k => bytealg_LastIndexByteString.l0 k (strOfNums L) 123 ((n : Int) - 1)) i := by
    intro n
    induction n with
    | zero =>
      intro _
      exact ⟨-1, by omega, st (fun k => by rw [bytealg_LastIndexByteString.l0]) (no (by simp) (fin rfl))⟩
    | succ n ih =>
      intro hn
      have e0 : ((n + 1 : Nat) : Int) - 1 = (n : Int) := by omega
      rw [e0]
      by_cases h : rd L (n : Int) = 123
      · refine ⟨n, by omega, st (fun k => by rw [bytealg_LastIndexByteString.l0]) ?_⟩
        rw [strOfNums_size, str_bt L hb]
        exact yes (by omega) (yes (by omega) (yes (by omega) (yes h (fin rfl))))
      · obtain ⟨i, hi, he⟩ := ih (by omega)
        refine ⟨i, hi, st (fun k => by rw [bytealg_LastIndexByteString.l0]) ?_⟩
        rw [strOfNums_size, str_bt L hb, w64 (x := (n : Int) - 1) (by omega) (by omega)]
        exact yes (by omega) (yes (by omega) (yes (by omega) (no h he)))
  obtain ⟨i, hi, he⟩ := main L.length (Nat.le_refl _)
  refine ⟨i, hi, ?_⟩
  unfold strings_LastIndexByte.f bytealg_LastIndexByteString.f
  rw [strOfNums_size, w64 (by omega) (by omega)]
  exact bnd he (fin rfl)
theorem tail_any (L : List Int) (hb : byte L) (hl : L.length ≤ 100000) : ∃ r : Int × Bool × Bool, 0 ≤ r.1 ∧ Ev (fun k => wire_tail.f k (strOfNums L)) r := by
  obtain ⟨i, hi, he⟩ := last_any L hb hl
  by_cases h : i < 0
  · refine ⟨(0, false, false), Int.le_refl _, ?_⟩
    unfold wire_tail.f
    exact bnd he (yes h (fin rfl))
  · obtain ⟨hd, n, w, hn, hh⟩ := head_any (L.drop i.toNat) (byte_drop hb _) (by simp; omega)
    have go : ∀ r, Ev (fun k => if hd > 0 then some (n, w, ((wrap64 (i + hd)) == ((strOfNums L).size : Int))) else some (n, w, false)) r → Ev (fun k => wire_tail.f k (strOfNums L)) r := by
      intro r hr
      unfold wire_tail.f
      refine bnd he (no h (yes (by omega) (yes (by rw [strOfNums_size]; omega) ?_)))
      have e := ext_end L i.toNat
      rw [← strOfNums_size] at e
      rw [e]
      exact bnd hh hr
    by_cases h0 : hd > 0
    · exact ⟨_, hn, go _ (yes h0 (fin rfl))⟩
    · exact ⟨_, hn, go _ (no h0 (fin rfl))⟩
/-- the number of the literal's head that a line's text ends in, whether it waits, and whether there is one -/
noncomputable def tailT (L : List Int) : Int × Bool × Bool := @dite _ (byte L ∧ L.length ≤ 100000) (Classical.propDecidable _) (fun h => (tail_any L h.1 h.2).choose) (fun _ => (0, false, false))
theorem tailT_ok (L : List Int) (hb : byte L) (hl : L.length ≤ 100000) : 0 ≤ (tailT L).1 ∧ Ev (fun k => wire_tail.f k (strOfNums L)) (tailT L) := by
  unfold tailT
  rw [dif_pos ⟨hb, hl⟩]
  exact (tail_any L hb hl).choose_spec
theorem index_l0 (l : List Int) (c : Int) (hl : l.length ≤ 1000000) (d : Nat) : ∀ i : Nat, l.length - i ≤ d → i ≤ l.length → Ev (fun k => slices_Index_byte_byte.l0 k l c (l.length : Int) (i : Int)) (if ix c (l.drop i) < (l.drop i).length then (i : Int) + (ix c (l.drop i) : Int) else -1) := by
  have stop : Ev (fun k => slices_Index_byte_byte.l0 k l c (l.length : Int) (l.length : Int)) (if ix c (l.drop l.length) < (l.drop l.length).length then (l.length : Int) + (ix c (l.drop l.length) : Int) else -1) := by
    refine st (fun k => by rw [slices_Index_byte_byte.l0]) ?_
    rw [List.drop_eq_nil_of_le (Nat.le_refl _)]
    exact no (by omega) (fin rfl)
  induction d with
  | zero =>
    intro i hd hi
    have e : i = l.length := by omega
    subst e; exact stop
  | succ d ih =>
    intro i hd hi
    rcases Nat.lt_or_ge i l.length with hlt | hge
    · have e1 : wrap64 ((i : Int) + 1) = ((i + 1 : Nat) : Int) := by rw [w64 (by omega) (by omega)]; omega
      refine st (fun k => by rw [slices_Index_byte_byte.l0]) ?_
      rw [e1, drop_rd l i hlt]
      refine yes (by omega) (yes (by omega) (yes (by omega) ?_))
      by_cases h : c = rd l (i : Int)
      · refine yes h (fin ?_)
        have e : ix c (rd l (i : Int) :: l.drop (i + 1)) = 0 := if_pos h.symm
        rw [e, if_pos (by simp)]; simp
      · refine no h (toE (ih (i + 1) (by omega) hlt) ?_)
        have e : ix c (rd l (i : Int) :: l.drop (i + 1)) = ix c (l.drop (i + 1)) + 1 := if_neg (fun e => h e.symm)
        rw [e, List.length_cons]
        by_cases h2 : ix c (l.drop (i + 1)) < (l.drop (i + 1)).length
        · rw [if_pos h2, if_pos (by omega)]; omega
        · rw [if_neg h2, if_neg (by omega)]
    · have e : i = l.length := by omega
      subst e; exact stop
theorem index_ok (l : List Int) (c : Int) (hl : l.length ≤ 1000000) : Ev (fun k => slices_Index_byte_byte.f k l c) (if ix c l < l.length then (ix c l : Int) else -1) := by
  unfold slices_Index_byte_byte.f
  have := index_l0 l c hl l.length 0 (by omega) (Nat.zero_le _)
  simpa using this
/-- a line's text, without its end -/
def lineT (D : List Int) : List Int := if 0 < ix 10 D ∧ rd D ((ix 10 D - 1 : Nat) : Int) = 13 then D.take (ix 10 D - 1) else D.take (ix 10 D)
theorem lineT_len (D : List Int) : (lineT D).length ≤ D.length := by
  unfold lineT; split <;> rw [List.length_take] <;> omega
theorem lineT_byte (D : List Int) (hb : byte D) : byte (lineT D) := by
  unfold lineT; split <;> exact byte_take hb _
theorem ends_ok (b : List Int) (a : Nat) (ha : a ≤ b.length) (hl : b.length ≤ 100000) :
    Ev (fun k => wire_ends.f k b (a : Int)) (if ix 10 (b.drop a) < (b.drop a).length then (strOfNums (lineT (b.drop a)), ((a + ix 10 (b.drop a) + 1 : Nat) : Int), true) else ((⟨#[]⟩ : ByteArray), 0, false)) := by
  have hDl : (b.drop a).length = b.length - a := List.length_drop
  have hI := index_ok (b.drop a) 10 (by omega)
  have hrd : ∀ j : Nat, j < (b.drop a).length → rd b ((a + j : Nat) : Int) = rd (b.drop a) (j : Int) := by
    intro j hj
    rw [rd_at _ _ (by omega), rd_at _ _ hj, List.getElem_drop]
  have htk : ∀ j : Nat, (b.take (a + j)).drop a = (b.drop a).take j := by
    intro j
    rw [List.drop_take, Nat.add_sub_cancel_left]
  unfold wire_ends.f
  refine yes ⟨by omega, by omega, by omega⟩ ?_
  rw [Int.toNat_natCast]
  refine bnd hI ?_
  by_cases h : ix 10 (b.drop a) < (b.drop a).length
  · rw [if_pos h, if_pos h]
    have e1 : ((a : Int) + (ix 10 (b.drop a) : Int)).toNat = a + ix 10 (b.drop a) := by omega
    refine no (by omega) (yes (by omega) ?_)
    rw [e1, htk]
    by_cases h0 : 0 < ix 10 (b.drop a)
    · have e2 : ((a : Int) + (ix 10 (b.drop a) : Int) - 1).toNat = a + (ix 10 (b.drop a) - 1) := by omega
      have e3 : (a : Int) + (ix 10 (b.drop a) : Int) - 1 = ((a + (ix 10 (b.drop a) - 1) : Nat) : Int) := by omega
      rw [e2, htk, e3, hrd _ (by omega)]
      refine yes (by omega) ?_
      by_cases h13 : rd (b.drop a) ((ix 10 (b.drop a) - 1 : Nat) : Int) = 13
      · refine yes h13 (fin ?_)
        unfold lineT; rw [if_pos ⟨h0, h13⟩]; rfl
      · refine no h13 (fin ?_)
        unfold lineT; rw [if_neg (fun h => h13 h.2)]; rfl
    · refine no (by omega) (fin ?_)
      unfold lineT; rw [if_neg (fun h => h0 h.1)]; rfl
  · rw [if_neg h, if_neg h]
    exact yes (by decide) (fin rfl)
end Go.Proofs.Ytmdhggiffdkmfaa.Chars
