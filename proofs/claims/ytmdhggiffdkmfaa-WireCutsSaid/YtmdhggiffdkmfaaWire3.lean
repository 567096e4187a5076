/- A quoted text, a literal and an atom are read as they were. -/
import Derived.Test.YtmdhggiffdkmfaaWire2
import Derived.Test.YtmdhggiffdkmfaaPx5
set_option linter.unusedVariables false
set_option linter.unusedSimpArgs false
set_option linter.unusedSectionVars false
namespace Go.Proofs.Ytmdhggiffdkmfaa.Chars
open Go.RowKit Go.Proofs.Ytmdhggiffdkmfaa.P Go.Proofs.YtmdhggiffdkmfaaW.PrintWords Go.Proofs.YtmdhggiffdkmfaaW.PrintLast Go.Proofs.YtmdhggiffdkmfaaW.PrintMore Go.Proofs.Ytmdhggiffdkmfaa.Aids
theorem drop_cons {L : List Int} {i : Nat} {x : Int} {T : List Int} (h : L.drop i = x :: T) : i < L.length ∧ rd L (i : Int) = x ∧ L.drop (i + 1) = T := by
  have hlt : i < L.length := by
    rcases Nat.lt_or_ge i L.length with h1 | h1
    · exact h1
    · rw [List.drop_eq_nil_of_le h1] at h; cases h
  rw [drop_rd L i hlt] at h
  injection h with h1 h2
  exact ⟨hlt, h1, h2⟩
theorem ext_end (L : List Int) (i : Nat) : (strOfNums L).extract i L.length = strOfNums (L.drop i) := by
  rw [str_extract, List.take_of_length_le (Nat.le_refl _)]
theorem unq_l0 (L : List Int) (hbL : byte L) (hL : L.length ≤ 1000000) : ∀ (l acc : List Int) (i : Nat) (rest : List Int), L.drop i = escs l ++ 34 :: rest → acc.length ≤ i →
    Ev (fun k => wire_quoted.l0 k (strOfNums L) acc (i : Int)) (strOfNums (acc ++ l), strOfNums rest, true)
  | [], acc, i, rest, h, ha => by
    obtain ⟨hlt, hx, hd⟩ := drop_cons (show L.drop i = 34 :: rest from h)
    have e1 : wrap64 ((i : Int) + 1) = ((i + 1 : Nat) : Int) := by rw [w64 (by omega) (by omega)]; omega
    refine st (fun k => by rw [wire_quoted.l0]) ?_
    rw [e1, str_bt L hbL, hx, strOfNums_size, Int.toNat_natCast, ext_end, hd, List.append_nil]
    exact yes (by omega) (yes (by omega) (yes rfl (yes (by omega) (yes (by omega) (fin rfl)))))
  | c :: t, acc, i, rest, h, ha => by
    have e1 : wrap64 ((i : Int) + 1) = ((i + 1 : Nat) : Int) := by
      rcases Nat.lt_or_ge i L.length with h1 | h1
      · rw [w64 (by omega) (by omega)]; omega
      · rw [List.drop_eq_nil_of_le h1] at h
        exact absurd h (by unfold escs esc; split <;> simp)
    by_cases hc : c = 34 ∨ c = 92
    · have h' : L.drop i = 92 :: (c :: (escs t ++ 34 :: rest)) := by rw [h, escs, esc, if_pos hc]; rfl
      obtain ⟨hlt, hx, hd⟩ := drop_cons h'
      obtain ⟨hlt2, hx2, hd2⟩ := drop_cons hd
      have e2 : wrap64 (((i + 1 : Nat) : Int) + 1) = ((i + 2 : Nat) : Int) := by rw [w64 (by omega) (by omega)]; omega
      have go := unq_l0 L hbL hL t (acc ++ [c]) (i + 2) rest hd2 (by simp; omega)
      rw [List.append_assoc] at go
      refine st (fun k => by rw [wire_quoted.l0]) ?_
      rw [e1, e2, str_bt L hbL, hx, str_bt L hbL, hx2, strOfNums_size]
      refine yes (by omega) (yes (by omega) (no (by decide) (yes rfl (no (by omega) (yes (by omega) (yes (by omega) ?_))))))
      by_cases h34 : c = 34
      · exact yes h34 (yes (by omega) go)
      · exact no h34 (yes (hc.resolve_left h34) (yes (by omega) go))
    · have h' : L.drop i = c :: (escs t ++ 34 :: rest) := by rw [h, escs, esc, if_neg hc]; rfl
      obtain ⟨hlt, hx, hd⟩ := drop_cons h'
      have go := unq_l0 L hbL hL t (acc ++ [c]) (i + 1) rest hd (by simp; omega)
      rw [List.append_assoc] at go
      refine st (fun k => by rw [wire_quoted.l0]) ?_
      rw [e1, str_bt L hbL, hx, strOfNums_size]
      exact yes (by omega) (yes (by omega) (no (fun e => hc (.inl e)) (no (fun e => hc (.inr e)) (yes (by omega) go))))
theorem unquoted (l rest : List Int) (hb : byte (qt l ++ rest)) (hl : (qt l ++ rest).length ≤ 1000000) : Ev (fun k => wire_quoted.f k (strOfNums (qt l ++ rest))) (strOfNums l, strOfNums rest, true) := by
  unfold wire_quoted.f
  exact unq_l0 _ hb hl l [] 1 rest (by unfold qt; simp) (by simp)
theorem hasPre (L p : List Int) (hb : byte L) (hp : byte p) : stringslite_HasPrefix.f (strOfNums L) (strOfNums p) = some (L.take p.length == p) := by
  unfold stringslite_HasPrefix.f
  rw [strOfNums_size, strOfNums_size]
  by_cases h : p.length ≤ L.length
  · rw [if_pos (by omega), if_pos (by omega), if_pos (by omega), Int.toNat_natCast, str_extract, List.drop_zero, toList_beq, bytes_str _ (byte_take hb _), bytes_str p hp]
  · rw [if_neg (by omega)]
    congr 1
    symm
    rw [beq_eq_false_iff_ne]
    intro e
    have := congrArg List.length e
    simp at this
    omega
theorem cutPre (L p : List Int) (hb : byte L) (hp : byte p) : strings_CutPrefix.f (strOfNums L) (strOfNums p) = some (if L.take p.length = p then (strOfNums (L.drop p.length), true) else (strOfNums L, false)) := by
  unfold strings_CutPrefix.f stringslite_CutPrefix.f
  rw [hasPre L p hb hp, Option.bind_some, strOfNums_size, strOfNums_size]
  by_cases h : L.take p.length = p
  · have hle : p.length ≤ L.length := by have := congrArg List.length h; simp at this; omega
    rw [if_pos (beq_iff_eq.mpr h), if_pos h, if_pos (by omega), if_pos (by omega), Int.toNat_natCast, ext_end]; rfl
  · rw [if_neg (by rw [beq_iff_eq]; exact h), if_neg h]; rfl
def tilde (L : List Int) : List Int := if L.take 1 = [126] then L.drop 1 else L
theorem trimPre (L : List Int) (hb : byte L) : strings_TrimPrefix.f (strOfNums L) (⟨#[126]⟩ : ByteArray) = some (strOfNums (tilde L)) := by
  unfold strings_TrimPrefix.f stringslite_TrimPrefix.f tilde
  rw [k126, show stringslite_HasPrefix.f (strOfNums L) (strOfNums [126]) = some (L.take 1 == [126]) from hasPre L [126] hb (byte_one (by decide) (by decide)), Option.bind_some, strOfNums_size, strOfNums_size]
  by_cases h : L.take 1 = [126]
  · have hle : 1 ≤ L.length := by have := congrArg List.length h; simp at this; omega
    rw [if_pos (beq_iff_eq.mpr h), if_pos h, if_pos (by simp), if_pos (by simp; omega)]
    show some ((strOfNums L).extract 1 L.length) = _
    rw [ext_end]
  · rw [if_neg (by rw [beq_iff_eq]; exact h), if_neg h]; rfl
theorem tilde_byte (L : List Int) (hb : byte L) : byte (tilde L) := by
  unfold tilde; split
  · exact byte_drop hb _
  · exact hb
/-- no literal's head: what stands behind a tilde, if there is one, is no brace -/
theorem head_none (L : List Int) (hb : byte L) (h : tilde L = [] ∨ rd (tilde L) 0 ≠ 123) : Ev (fun k => wire_head.f k (strOfNums L)) (0, 0, false) := by
  have bad : Ev (fun k => wire_head.j0 k (strOfNums L) (strOfNums (tilde L)) true) (0, 0, false) := st (fun k => by rw [wire_head.j0]) (yes rfl (fin rfl))
  unfold wire_head.f
  rw [trimPre L hb]
  refine bs ?_
  have e0 : (strOfNums (tilde L)).toList = [] ↔ tilde L = [] := by rw [toList_nil, bytes_str _ (tilde_byte L hb)]
  by_cases h0 : tilde L = []
  · exact yes (e0.2 h0) bad
  · have hp : 0 < (tilde L).length := List.length_pos_iff.2 h0
    refine no (fun e => h0 (e0.1 e)) (yes (by rw [strOfNums_size]; omega) ?_)
    rw [str_bt _ (tilde_byte L hb), show (rd (tilde L) 0 != 123) = true from bne_iff_ne.mpr (h.resolve_left h0)]
    exact bad
theorem literal_none (L : List Int) (hb : byte L) (h : tilde L = [] ∨ rd (tilde L) 0 ≠ 123) : Ev (fun k => wire_literal.f k (strOfNums L)) ((⟨#[]⟩ : ByteArray), (⟨#[]⟩ : ByteArray), false) := by
  unfold wire_literal.f
  exact bnd (head_none L hb h) (yes rfl (fin rfl))
theorem digs_range (d : Nat) : ∀ m, ∀ x ∈ digs d m, 48 ≤ x ∧ x ≤ 57 := by
  induction d with
  | zero => intro m x hx; simp [digs] at hx
  | succ d ih =>
    intro m x hx
    rw [digs] at hx
    split at hx
    · simp at hx
    · rcases List.mem_append.1 hx with hx | hx
      · exact ih _ x hx
      · rw [List.mem_singleton.1 hx]; omega
theorem digits_range (n : Nat) : ∀ x ∈ digits (n : Int), 48 ≤ x ∧ x ≤ 57 := by
  intro x hx
  unfold digits at hx
  split at hx
  · rw [List.mem_singleton.1 hx]; decide
  · split at hx
    · omega
    · exact digs_range _ _ x hx
theorem digits_pos (n : Nat) (h : n ≤ 4294967295) : 1 ≤ (digits (n : Int)).length := by
  have := number_digits (n : Int) (by omega) (by omega)
  rw [if_pos (by omega)] at this
  unfold number at this
  split at this
  · cases this
  · omega
theorem ix_skip (c : Int) : ∀ (A B : List Int), (∀ x ∈ A, x ≠ c) → ix c (A ++ c :: B) = A.length
  | [], B, _ => if_pos rfl
  | x :: t, B, h => by
    rw [List.cons_append, ix, if_neg (h x List.mem_cons_self), ix_skip c t B (fun y hy => h y (List.mem_cons_of_mem _ hy))]; rfl
theorem noPlus (D : List Int) (hb : byte D) (hl : D.length ≤ 1000) (hp : 1 ≤ D.length) (h : ∀ x ∈ D, x ≠ 43) : strings_CutSuffix.f (strOfNums D) (⟨#[43]⟩ : ByteArray) = some (strOfNums D, false) := by
  unfold strings_CutSuffix.f stringslite_CutSuffix.f stringslite_HasSuffix.f
  have k43 : (⟨#[43]⟩ : ByteArray) = strOfNums [43] := rfl
  have e1 : wrap64 ((D.length : Int) - (([43] : List Int).length : Int)) = ((D.length - 1 : Nat) : Int) := by
    show wrap64 ((D.length : Int) - 1) = _
    rw [w64 (by omega) (by omega)]; omega
  rw [k43, strOfNums_size, strOfNums_size, e1, if_pos (by simp; omega), if_pos (by omega), if_pos (by omega), Int.toNat_natCast, ext_end, toList_beq, bytes_str _ (byte_drop hb _), bytes_str [43] (byte_one (by decide) (by decide))]
  have : (D.drop (D.length - 1) == [43]) = false := by
    rw [beq_eq_false_iff_ne]
    intro e
    have hm : (43 : Int) ∈ D.drop (D.length - 1) := by rw [e]; exact List.mem_cons_self
    exact h 43 (List.mem_of_mem_drop hm) rfl
  rw [this]; rfl
end Go.Proofs.Ytmdhggiffdkmfaa.Chars
