/- CharsetChars: each character's bytes are one character's, and each byte of the narrow charsets is one character, of its number; for every number and every byte. -/
import Derived.Test.YtoihcdahloddkaaDoorPx6
import Derived.Test.YtoihcdahloddkaaDoorAwk
set_option linter.unusedVariables false
set_option linter.unusedSimpArgs false
namespace Go.Proofs.YtoihcdahloddkaaDoor.Pure
open Go.RowKit Go.Lib Go.Proofs.YtoihcdahloddkaaDoor.P Go.Proofs.YtoihcdahloddkaaDoor.Utf Go.Proofs.YtoihcdahloddkaaDoor.Cs Go.Proofs.YtoihcdahloddkaaDoorW.PrintWords Go.Proofs.YtoihcdahloddkaaDoorW.PrintLast Go.Proofs.YtoihcdahloddkaaDoor.Aids
theorem enc_data (c : Nat) : (Utf8.encode (c : Int)).data.toList = E [c] := by rw [enc_list]; simp [E]
theorem enc_small (c : Int) : (Utf8.encode c).size ≤ 4 := encode_size_le c
theorem kind_u : cs_kind (cs_fold ⟨#[117, 116, 102, 56]⟩) = 3 := by decide +kernel
theorem kind_l : cs_kind (cs_fold ⟨#[108, 97, 116, 105, 110, 49]⟩) = 2 := by decide +kernel
theorem kind_a : cs_kind (cs_fold ⟨#[97, 115, 99, 105, 105]⟩) = 1 := by decide +kernel
theorem one_rune (x : Int) : runesBytes [x] = Utf8.encode x := by
  unfold runesBytes
  simp
theorem chars_j1 (x : Int) (hx : 0 ≤ x ∧ x ≤ 255) (c : Nat) (hc : good c) : Ev (fun k => letterboxlaw08_CharsetChars.j1 k x (c : Int)) true := by
  have hc2 : c ≤ 1114111 := by unfold good at hc; omega
  have he := enc_small (c : Int)
  have hx1 : byte [x] := byte_one hx.1 hx.2
  refine st (fun k => by rw [letterboxlaw08_CharsetChars.j1]) (yes (by omega) ?_)
  rw [text_f _ _ (by decide) (by rw [size_bytes]; omega) (byte_bytes _), text_f _ _ (by decide) (by simp) hx1, text_f _ _ (by decide) (by simp) hx1, bytes_f _ _ (by decide) (by omega), kind_u, kind_l, kind_a]
  have v : validL (bytesOf (Utf8.encode (c : Int))) = true := by
    unfold validL
    rw [u8s_bytes, enc_data]
    exact valid_E _ (by simpa using hc)
  have t3 : cs_textv 3 (bytesOf (Utf8.encode (c : Int))) = (Utf8.encode (c : Int), 0) := by rw [textv_3, if_pos v, str_bytes]
  have t2 : cs_textv 2 [x] = (Utf8.encode x, 0) := by
    rw [textv_n (.inr rfl), if_pos (by simp [szk]; omega), one_rune]
  have t1 : (cs_textv 1 [x]).2 = if x < 128 then 0 else 21 := by
    rw [textv_n (.inl rfl)]
    by_cases h : x < 128
    · rw [if_pos (by simp [szk]; omega), if_pos h]
    · rw [if_neg (by simp [szk]; omega), if_neg h]
  have b2 : cs_bytv 2 (Utf8.encode (c : Int)) = if (c : Int) < 256 then ([(c : Int) % 256], 0) else ([], 21) := by
    rw [bytv_n (.inr rfl) _ [c] (by simpa using hc) (enc_data c)]
    by_cases h : (c : Int) < 256
    · rw [if_pos (by simp [szk]; omega), if_pos h]; rfl
    · rw [if_neg (by simp [szk]; omega), if_neg h]
  rw [t3, t2, b2]
  refine bs ?_
  refine bs ?_
  refine bs ?_
  refine bs ?_
  have e1 : (((cs_textv 1 [x]).2 == 0) == decide (x < 128)) = true := by
    rw [t1]
    by_cases h : x < 128
    · rw [if_pos h, decide_eq_true h]; rfl
    · rw [if_neg h, decide_eq_false h]; rfl
  have ew : wrap32 x = x := by unfold wrap32; omega
  clear t1 t2 t3 b2
  by_cases h : (c : Int) < 256
  · have ew2 : wrap32 ((c : Int) % 256) = (c : Int) := by unfold wrap32; omega
    have erd : rd [(c : Int) % 256] 0 = (c : Int) % 256 := rfl
    have e3 : ((([(c : Int) % 256] : List Int).length : Nat) : Int) = 1 := rfl
    have e4 : (((0 : Int) == 0) == true) = true := rfl
    have e5 : (0 : Int) < 1 := by decide
    have ed := decide_eq_true h
    rw [if_pos h, ew]
    simp only [if_true, e1, ed, erd, ew2, e3, e4, e5]
    exact fin (beq_self_eq_true _)
  · have e4 : (((21 : Int) == 0) == false) = true := rfl
    have e5 : ¬ ((21 : Int) = 0) := by decide
    have ed := decide_eq_false h
    rw [if_neg h, ew]
    simp only [if_true, e1, ed, e4, e5, if_false]
    exact fin rfl
theorem CharsetChars : letterboxlaw08_CharsetChars.Pure := by
  intro a0 a1 h0 h1
  have hx := wf_u8 h1
  have hu := wf_u32 h0
  refine Ev.rounds (g := fun k => letterboxlaw08_CharsetChars.f k a0 a1) ?_
  unfold letterboxlaw08_CharsetChars.f
  rw [awake]
  have e : wrap32 (Int.tmod a0 1114112) = a0 % 1114112 := by
    rw [tmod_pos hu.1]; unfold wrap32; omega
  rw [e]
  obtain ⟨c, hc⟩ : ∃ c : Nat, a0 % 1114112 = (c : Int) := ⟨(a0 % 1114112).toNat, by omega⟩
  have hc2 : c < 1114112 := by omega
  rw [hc]
  clear e hc
  refine bs (yes rfl ?_)
  by_cases h1 : (c : Int) ≥ 55296
  · refine yes h1 ?_
    by_cases h2 : (c : Int) ≤ 57343
    · refine st (fun k => by rw [letterboxlaw08_CharsetChars.j0]) (yes (decide_eq_true h2) ?_)
      exact chars_j1 a1 hx 65 (by unfold good; omega)
    · refine st (fun k => by rw [letterboxlaw08_CharsetChars.j0]) (no (by simpa using h2) ?_)
      exact chars_j1 a1 hx c (by unfold good; omega)
  · refine no h1 (st (fun k => by rw [letterboxlaw08_CharsetChars.j0]) (no (by decide) ?_))
    exact chars_j1 a1 hx c (by unfold good; omega)
end Go.Proofs.YtoihcdahloddkaaDoor.Pure
