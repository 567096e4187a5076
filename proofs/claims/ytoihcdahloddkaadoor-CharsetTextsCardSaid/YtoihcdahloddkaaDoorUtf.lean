/- UTF-8 in plain words: what is valid is a row of characters, one encoded behind the other. No Go and no program in sight. -/
import Derived.Test.YtoihcdahloddkaaDoorEvs
import Derived.Lib.ValidLaws
import Derived.Lib.MapLaws
import Derived.Laws.Cover4
set_option linter.unusedVariables false
set_option linter.unusedSimpArgs false
namespace Go.Proofs.YtoihcdahloddkaaDoor.Utf
open Go.RowKit Go.Lib Go.Proofs.YtoihcdahloddkaaDoor.Aids
def good (c : Nat) : Prop := c < 55296 ∨ (57344 ≤ c ∧ c ≤ 1114111)
theorem enc_list (r : Int) : (Utf8.encode r).data.toList = encodeRune r := by
  unfold Utf8.encode Utf8.valid
  by_cases h : (0 ≤ r ∧ r < 55296) ∨ (57344 ≤ r ∧ r ≤ 1114111)
  · have hv : ((0 ≤ r && r < 0xD800) || (0xE000 ≤ r && r ≤ 0x10FFFF)) = true := by
      rcases h with h | h <;> simp <;> omega
    simp only [hv, if_true]
    unfold encodeRune
    by_cases h1 : r ≤ 127
    · rw [encodeRuneZ_one (by omega) h1, if_pos (by omega)]
      simp
    · rw [if_neg (by omega)]
      by_cases h2 : r ≤ 2047
      · rw [encodeRuneZ_two (by omega) h2, if_pos (by omega)]
        simp only [List.map_cons, List.map_nil]
        rw [show (192 + r / 64).toNat = 192 + r.toNat / 64 by omega, show (128 + r % 64).toNat = 128 + r.toNat % 64 by omega]
      · rw [if_neg (by omega)]
        by_cases h3 : r ≤ 65535
        · rw [encodeRuneZ_three (by omega), if_pos (by omega)]
          simp only [List.map_cons, List.map_nil]
          rw [show (224 + r / 4096).toNat = 224 + r.toNat / 4096 by omega, show (128 + r / 64 % 64).toNat = 128 + r.toNat / 64 % 64 by omega, show (128 + r % 64).toNat = 128 + r.toNat % 64 by omega]
        · rw [encodeRuneZ_four (by omega) (by omega), if_neg (by omega)]
          simp only [List.map_cons, List.map_nil]
          rw [show (240 + r / 262144).toNat = 240 + r.toNat / 262144 by omega, show (128 + r / 4096 % 64).toNat = 128 + r.toNat / 4096 % 64 by omega, show (128 + r / 64 % 64).toNat = 128 + r.toNat / 64 % 64 by omega, show (128 + r % 64).toNat = 128 + r.toNat % 64 by omega]
  · have hv : ((0 ≤ r && r < 0xD800) || (0xE000 ≤ r && r ≤ 0x10FFFF)) = false := by
      cases hb : ((0 ≤ r && r < 0xD800) || (0xE000 ≤ r && r ≤ 0x10FFFF)) with
      | false => rfl
      | true => exfalso; apply h; simp at hb; omega
    simp only [hv]
    unfold encodeRune
    rw [encodeRuneZ_bad (by omega)]
    simp [Utf8.runeError]
theorem b8 (n : Nat) (h : n < 256) : (n.toUInt8).toNat = n := by
  show (UInt8.ofNat n).toNat = n
  rw [UInt8.toNat_ofNat']; omega
/-- a character's bytes, and whatever behind, are decoded as the character -/
theorem dec_enc (c : Nat) (hc : good c) (r : List UInt8) : decodeL (encodeRune (c : Int) ++ r) = (c, (encodeRune (c : Int)).length) := by
  unfold good at hc
  rw [decodeL_N]
  unfold encodeRune
  by_cases h1 : c ≤ 127
  · rw [encodeRuneZ_one (by omega) (by omega)]
    simp only [List.map_cons, List.map_nil, List.cons_append, List.nil_append, List.getD_cons_zero, List.length_cons, List.length_nil, Int.toNat_natCast]
    rw [b8 c (by omega)]
    unfold decodeN
    rw [if_pos (by omega)]
  by_cases h2 : c ≤ 2047
  · rw [encodeRuneZ_two (by omega) (by omega)]
    simp only [List.map_cons, List.map_nil, List.cons_append, List.nil_append, List.getD_cons_zero, List.getD_cons_succ, List.length_cons, List.length_nil]
    rw [show (192 + (c : Int) / 64).toNat = 192 + c / 64 by omega, show (128 + (c : Int) % 64).toNat = 128 + c % 64 by omega, b8 _ (by omega), b8 _ (by omega)]
    unfold decodeN
    rw [if_neg (by omega), if_pos (by omega), if_pos (by omega)]
    rw [show (192 + c / 64) % 32 * 64 + (128 + c % 64) % 64 = c by omega]
  by_cases h3 : c ≤ 65535
  · rw [encodeRuneZ_three (by omega)]
    simp only [List.map_cons, List.map_nil, List.cons_append, List.nil_append, List.getD_cons_zero, List.getD_cons_succ, List.length_cons, List.length_nil]
    rw [show (224 + (c : Int) / 4096).toNat = 224 + c / 4096 by omega, show (128 + (c : Int) / 64 % 64).toNat = 128 + c / 64 % 64 by omega, show (128 + (c : Int) % 64).toNat = 128 + c % 64 by omega, b8 _ (by omega), b8 _ (by omega), b8 _ (by omega)]
    unfold decodeN
    have e : (224 + c / 4096) % 16 * 4096 + (128 + c / 64 % 64) % 64 * 64 + (128 + c % 64) % 64 = c := by omega
    rw [if_neg (by omega), if_neg (by omega), if_pos (by omega), e, if_pos (by omega)]
  · rw [encodeRuneZ_four (by omega) (by omega)]
    simp only [List.map_cons, List.map_nil, List.cons_append, List.nil_append, List.getD_cons_zero, List.getD_cons_succ, List.length_cons, List.length_nil]
    rw [show (240 + (c : Int) / 262144).toNat = 240 + c / 262144 by omega, show (128 + (c : Int) / 4096 % 64).toNat = 128 + c / 4096 % 64 by omega, show (128 + (c : Int) / 64 % 64).toNat = 128 + c / 64 % 64 by omega, show (128 + (c : Int) % 64).toNat = 128 + c % 64 by omega, b8 _ (by omega), b8 _ (by omega), b8 _ (by omega), b8 _ (by omega)]
    unfold decodeN
    have e : (240 + c / 262144) % 8 * 262144 + (128 + c / 4096 % 64) % 64 * 4096 + (128 + c / 64 % 64) % 64 * 64 + (128 + c % 64) % 64 = c := by omega
    rw [if_neg (by omega), if_neg (by omega), if_neg (by omega), if_pos (by omega), e, if_pos (by omega)]
def bad (l : List UInt8) : Prop := (decodeL l).1 = 65533 ∧ (decodeL l).2 = 1
theorem enc_len (c : Int) : 1 ≤ (encodeRune c).length ∧ (encodeRune c).length ≤ 4 := by
  have := encodeRuneZ_length c
  simpa [encodeRune] using this
theorem enc_one {c : Nat} (hc : good c) (h : (encodeRune (c : Int)).length = 1) : c ≤ 127 := by
  unfold good at hc
  by_cases h1 : c ≤ 127
  · exact h1
  · exfalso
    unfold encodeRune at h
    rw [List.length_map] at h
    by_cases h2 : c ≤ 2047
    · rw [encodeRuneZ_two (by omega) (by omega)] at h; simp at h
    · by_cases h3 : c ≤ 65535
      · rw [encodeRuneZ_three (by omega)] at h; simp at h
      · rw [encodeRuneZ_four (by omega) (by omega)] at h; simp at h
theorem not_bad (c : Nat) (hc : good c) (r : List UInt8) : ¬ bad (encodeRune (c : Int) ++ r) := by
  unfold bad
  rw [dec_enc c hc r]
  rintro ⟨h1, h2⟩
  simp only at h1 h2
  have := enc_one hc h2
  omega
/-- what is decoded well is a character, and its bytes stand there -/
theorem dec_good (l : List UInt8) (hne : l ≠ []) (h : ¬ bad l) : good (decodeL l).1 ∧ l = encodeRune ((decodeL l).1 : Int) ++ l.drop (decodeL l).2 ∧ (encodeRune ((decodeL l).1 : Int)).length = (decodeL l).2 := by
  have hed := encode_decode l hne h
  have hsplit : l = encodeRune ((decodeL l).1 : Int) ++ l.drop (decodeL l).2 := by rw [hed, List.take_append_drop]
  have hgood : good (decodeL l).1 := by
    unfold bad at h
    rw [decodeL_N] at h ⊢
    have k0 := (l.getD 0 0).toNat_lt
    have k1 := (l.getD 1 0).toNat_lt
    unfold good
    rcases decodeN_shape l.length (l.getD 0 0).toNat (l.getD 1 0).toNat (l.getD 2 0).toNat (l.getD 3 0).toNat with ⟨c, e⟩ | ⟨c1, c2, c3, cv, e⟩ | ⟨c1, c2, c3, c4, cv, cs, e⟩ | ⟨c1, c2, c3, c4, c5, cv, cw, e⟩ | e
    · rw [e]; dsimp only; omega
    · rw [e]; dsimp only; omega
    · rw [e]; dsimp only; omega
    · rw [e]; dsimp only; omega
    · rw [e] at h; exact absurd ⟨rfl, rfl⟩ h
  refine ⟨hgood, hsplit, ?_⟩
  have := dec_enc _ hgood (l.drop (decodeL l).2)
  rw [← hsplit] at this
  exact (congrArg Prod.snd this).symm
def E (rs : List Nat) : List UInt8 := rs.flatMap fun (c : Nat) => encodeRune (c : Int)
theorem E_cons (c : Nat) (rs : List Nat) : E (c :: rs) = encodeRune (c : Int) ++ E rs := rfl
theorem E_append (a b : List Nat) : E (a ++ b) = E a ++ E b := by simp [E]
theorem E_ne (c : Nat) (rs : List Nat) : E (c :: rs) ≠ [] := by
  rw [E_cons]
  intro h
  have := (enc_len (c : Int)).1
  rw [List.append_eq_nil_iff] at h
  rw [h.1] at this
  simp at this
theorem valid_E : ∀ rs : List Nat, (∀ c ∈ rs, good c) → validD (E rs) = true
  | [], _ => validD_nil
  | c :: rs, h => by
    have hc := h c (List.mem_cons_self)
    rw [validD_step _ (E_ne c rs), if_neg (show ¬ ((decodeL (E (c :: rs))).1 = 65533 ∧ (decodeL (E (c :: rs))).2 = 1) from not_bad c hc (E rs)), E_cons, dec_enc c hc]
    simp only
    rw [List.drop_left]
    exact valid_E rs (fun d hd => h d (List.mem_cons_of_mem _ hd))
theorem of_valid : ∀ (n : Nat) (l : List UInt8), l.length ≤ n → validD l = true → ∃ rs : List Nat, (∀ c ∈ rs, good c) ∧ l = E rs
  | 0, l, hn, _ => ⟨[], by simp, by rw [List.eq_nil_of_length_eq_zero (show l.length = 0 by omega)]; rfl⟩
  | n + 1, l, hn, h => by
    by_cases hne : l = []
    · exact ⟨[], by simp, by rw [hne]; rfl⟩
    · rw [validD_step l hne] at h
      by_cases hb : bad l
      · rw [if_pos (show (decodeL l).1 = 65533 ∧ (decodeL l).2 = 1 from hb)] at h; cases h
      · rw [if_neg (show ¬ ((decodeL l).1 = 65533 ∧ (decodeL l).2 = 1) from hb)] at h
        obtain ⟨hg, hs, hl⟩ := dec_good l hne hb
        have hw := decodeL_width l
        have hlen : 0 < l.length := List.length_pos_iff.2 hne
        obtain ⟨rs, h1, h2⟩ := of_valid n (l.drop (decodeL l).2) (by rw [List.length_drop]; omega) h
        refine ⟨(decodeL l).1 :: rs, fun c hc => ?_, ?_⟩
        · rcases List.mem_cons.1 hc with rfl | hc
          · exact hg
          · exact h1 c hc
        · rw [E_cons, ← h2]; exact hs
theorem valid_runes {l : List UInt8} (h : validD l = true) : ∃ rs : List Nat, (∀ c ∈ rs, good c) ∧ l = E rs := of_valid l.length l (Nat.le_refl _) h
theorem valid_append {a b : List UInt8} (ha : validD a = true) (hb : validD b = true) : validD (a ++ b) = true := by
  obtain ⟨ra, ga, rfl⟩ := valid_runes ha
  obtain ⟨rb, gb, rfl⟩ := valid_runes hb
  rw [← E_append]
  exact valid_E _ (fun c hc => (List.mem_append.1 hc).elim (ga c) (gb c))
/-- a row of small characters as a text -/
theorem runes_data (l : List Int) (hb : ∀ x ∈ l, 0 ≤ x) : (runesBytes l).data.toList = E (l.map Int.toNat) := by
  have key : ∀ (l : List Int) (s : ByteArray), (∀ x ∈ l, 0 ≤ x) → (l.foldl (fun r n => r ++ Utf8.encode n) s).data.toList = s.data.toList ++ E (l.map Int.toNat) := by
    intro l
    induction l with
    | nil => intro s _; simp [E]
    | cons x t ih =>
      intro s h
      have hx := h x (List.mem_cons_self)
      rw [List.foldl_cons, ih _ (fun y hy => h y (List.mem_cons_of_mem _ hy)), ByteArray.data_append, Array.toList_append, enc_list, List.map_cons, E_cons, Int.toNat_of_nonneg hx, List.append_assoc]
  have := key l ByteArray.empty hb
  simpa [runesBytes] using this
end Go.Proofs.YtoihcdahloddkaaDoor.Utf
