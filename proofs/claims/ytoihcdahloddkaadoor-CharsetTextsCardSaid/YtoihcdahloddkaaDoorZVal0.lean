import Derived.Test.YtoihcdahloddkaaDoorZFind6
import Derived.Test.YtoihcdahloddkaaDoorEvs
import Derived.Shelf.Unicode.ValidAny
import Derived.Lib.ValidLaws
import Derived.Lib.EndianBits
namespace Go.Proofs.YtoihcdahloddkaaDoor.P
open Go.RowKit Go.Proofs.YtoihcdahloddkaaDoorW.PrintWords Go.Proofs.YtoihcdahloddkaaDoorW.PrintLast Go.Proofs.YtoihcdahloddkaaDoorW.PrintMore Go.Proofs.YtoihcdahloddkaaDoor.Aids
attribute [-simp] Int.tmod_tmod_of_dvd
set_option linter.unusedVariables false
set_option linter.unusedSimpArgs false
def u8s (l : List Int) : List UInt8 := l.map fun x => UInt8.ofNat x.toNat
def validL (l : List Int) : Bool := Lib.validD (u8s l)
theorem u8s_len (l : List Int) : (u8s l).length = l.length := by simp [u8s]
theorem u8s_get (l : List Int) (hb : byte l) (i : Nat) : ((u8s l).getD i 0).toNat = (rd l (i : Int)).toNat := by
  unfold rd u8s
  rw [List.getD_eq_getElem?_getD, List.getD_eq_getElem?_getD, List.getElem?_map, Int.toNat_natCast]
  cases h : l[i]? with
  | none => rfl
  | some x =>
    have := hb x (List.mem_of_getElem? h)
    simp only [Option.map_some, Option.getD_some, UInt8.toNat_ofNat']
    omega
theorem rd_byte (l : List Int) (hb : byte l) (i : Nat) : 0 ≤ rd l (i : Int) ∧ rd l (i : Int) ≤ 255 := by
  by_cases h : i < l.length
  · exact hb _ (rd_mem l i h)
  · unfold rd
    rw [Int.toNat_natCast, List.getD_eq_getElem?_getD, List.getElem?_eq_none (by omega)]
    decide
theorem u8s_drop (l : List Int) (k : Nat) : u8s (l.drop k) = (u8s l).drop k := by simp [u8s]
theorem valid_nil : validL [] = true := rfl
theorem valid_asc (l : List Int) (hb : byte l) (k : Nat) (h : ∀ i : Nat, i < k → i < l.length → rd l (i : Int) < 128) : validL (l.drop k) = validL l := by
  unfold validL
  rw [u8s_drop]
  refine (Lib.validD_ascii k _ (fun b hbm => ?_)).symm
  obtain ⟨i, hi, rfl⟩ := List.getElem_of_mem hbm
  rw [List.length_take, u8s_len] at hi
  have h1 := h i (by omega) (by omega)
  have h2 := u8s_get l hb i
  rw [List.getElem_take]
  rw [List.getD_eq_getElem?_getD, List.getElem?_eq_getElem (by rw [u8s_len]; omega), Option.getD_some] at h2
  have := rd_byte l hb i
  omega
theorem valid_lead (l : List Int) (hb : byte l) (hne : 0 < l.length) (h0 : 128 ≤ rd l 0) :
    validL l = match Lib.checkN l.length (rd l 1).toNat (rd l 2).toNat (rd l 3).toNat (Lib.firstT (rd l 0).toNat % 8) (Lib.accLo (Lib.firstT (rd l 0).toNat / 16)) (Lib.accHi (Lib.firstT (rd l 0).toNat / 16)) with
      | none => false
      | some k => validL (l.drop k) := by
  have e0 := u8s_get l hb 0
  have e1 := u8s_get l hb 1
  have e2 := u8s_get l hb 2
  have e3 := u8s_get l hb 3
  have := Lib.validD_lead (u8s l) (fun h => by have := u8s_len l; rw [h] at this; simp at this; omega) (by rw [e0]; have : ((0 : Nat) : Int) = 0 := rfl; rw [this]; omega)
  rw [e0, e1, e2, e3, u8s_len] at this
  show Lib.validD (u8s l) = _
  rw [this]
  show (match Lib.checkN l.length (rd l 1).toNat (rd l 2).toNat (rd l 3).toNat (Lib.firstT (rd l 0).toNat % 8) (Lib.accLo (Lib.firstT (rd l 0).toNat / 16)) (Lib.accHi (Lib.firstT (rd l 0).toNat / 16)) with | none => false | some k => Lib.validD ((u8s l).drop k)) = _
  cases Lib.checkN l.length (rd l 1).toNat (rd l 2).toNat (rd l 3).toNat (Lib.firstT (rd l 0).toNat % 8) (Lib.accLo (Lib.firstT (rd l 0).toNat / 16)) (Lib.accHi (Lib.firstT (rd l 0).toNat / 16)) with
  | none => rfl
  | some k => show Lib.validD ((u8s l).drop k) = Lib.validD (u8s (l.drop k)); rw [u8s_drop]
/-- the number that the first eight bytes spell -/
def w8 (l : List Int) : Nat := Lib.leNat ((u8s l).take 8)
theorem w8_lt (l : List Int) : w8 l < 18446744073709551616 := by
  have h := Lib.leNat_lt ((u8s l).take 8)
  have h2 : ((u8s l).take 8).length ≤ 8 := by rw [List.length_take]; omega
  have h3 : 256 ^ ((u8s l).take 8).length ≤ 256 ^ 8 := Nat.pow_le_pow_right (by decide) h2
  unfold w8
  omega
theorem w8_asc (l : List Int) (hb : byte l) (h8 : 8 ≤ l.length) (h : w8 l &&& 9259542123273814144 = 0) : ∀ i : Nat, i < 8 → rd l (i : Int) < 128 := by
  have hl : ((u8s l).take 8).length = 8 := by rw [List.length_take, u8s_len]; omega
  have hm := Lib.leNat_mask ((u8s l).take 8)
  rw [hl, Lib.maskN8] at hm
  have h1 := hm.1 h
  intro i hi
  have h2 := u8s_get l hb i
  have hi2 : i < ((u8s l).take 8).length := by omega
  have h3 := h1 _ (List.getElem_mem hi2)
  rw [List.getElem_take] at h3
  rw [List.getD_eq_getElem?_getD, List.getElem?_eq_getElem (by rw [u8s_len]; omega), Option.getD_some] at h2
  have := rd_byte l hb i
  omega
theorem w8_eq (l : List Int) (hb : byte l) (h8 : 8 ≤ l.length) : ((w8 l : Nat) : Int) = rd l 0 + rd l 1 * 256 + rd l 2 * 65536 + rd l 3 * 16777216 + rd l 4 * 4294967296 + rd l 5 * 1099511627776 + rd l 6 * 281474976710656 + rd l 7 * 72057594037927936 := by
  have e0 : ((u8s l).getD 0 0).toNat = (rd l 0).toNat := u8s_get l hb 0
  have b0 : 0 ≤ rd l 0 ∧ rd l 0 ≤ 255 := rd_byte l hb 0
  have e1 : ((u8s l).getD 1 0).toNat = (rd l 1).toNat := u8s_get l hb 1
  have b1 : 0 ≤ rd l 1 ∧ rd l 1 ≤ 255 := rd_byte l hb 1
  have e2 : ((u8s l).getD 2 0).toNat = (rd l 2).toNat := u8s_get l hb 2
  have b2 : 0 ≤ rd l 2 ∧ rd l 2 ≤ 255 := rd_byte l hb 2
  have e3 : ((u8s l).getD 3 0).toNat = (rd l 3).toNat := u8s_get l hb 3
  have b3 : 0 ≤ rd l 3 ∧ rd l 3 ≤ 255 := rd_byte l hb 3
  have e4 : ((u8s l).getD 4 0).toNat = (rd l 4).toNat := u8s_get l hb 4
  have b4 : 0 ≤ rd l 4 ∧ rd l 4 ≤ 255 := rd_byte l hb 4
  have e5 : ((u8s l).getD 5 0).toNat = (rd l 5).toNat := u8s_get l hb 5
  have b5 : 0 ≤ rd l 5 ∧ rd l 5 ≤ 255 := rd_byte l hb 5
  have e6 : ((u8s l).getD 6 0).toNat = (rd l 6).toNat := u8s_get l hb 6
  have b6 : 0 ≤ rd l 6 ∧ rd l 6 ≤ 255 := rd_byte l hb 6
  have e7 : ((u8s l).getD 7 0).toNat = (rd l 7).toNat := u8s_get l hb 7
  have b7 : 0 ≤ rd l 7 ∧ rd l 7 ≤ 255 := rd_byte l hb 7
  have hl := u8s_len l
  unfold w8
  generalize u8s l = m at *
  match m, hl with
  | a0 :: a1 :: a2 :: a3 :: a4 :: a5 :: a6 :: a7 :: r, _ =>
    replace e0 : a0.toNat = (rd l 0).toNat := e0
    replace e1 : a1.toNat = (rd l 1).toNat := e1
    replace e2 : a2.toNat = (rd l 2).toNat := e2
    replace e3 : a3.toNat = (rd l 3).toNat := e3
    replace e4 : a4.toNat = (rd l 4).toNat := e4
    replace e5 : a5.toNat = (rd l 5).toNat := e5
    replace e6 : a6.toNat = (rd l 6).toNat := e6
    replace e7 : a7.toNat = (rd l 7).toNat := e7
    show ((Lib.leNat [a0, a1, a2, a3, a4, a5, a6, a7] : Nat) : Int) = _
    simp only [Lib.leNat]
    omega
  | [], h => simp at h; omega
  | [_], h => simp at h; omega
  | [_, _], h => simp at h; omega
  | [_, _, _], h => simp at h; omega
  | [_, _, _, _], h => simp at h; omega
  | [_, _, _, _, _], h => simp at h; omega
  | [_, _, _, _, _, _], h => simp at h; omega
  | [_, _, _, _, _, _, _], h => simp at h; omega
theorem word_f (l : List Int) (hb : byte l) (h8 : 8 ≤ l.length) : utf8_word_byte.f l = some ((w8 l : Nat) : Int) := by
  have b0 : 0 ≤ rd l 0 ∧ rd l 0 ≤ 255 := rd_byte l hb 0
  have b1 : 0 ≤ rd l 1 ∧ rd l 1 ≤ 255 := rd_byte l hb 1
  have b2 : 0 ≤ rd l 2 ∧ rd l 2 ≤ 255 := rd_byte l hb 2
  have b3 : 0 ≤ rd l 3 ∧ rd l 3 ≤ 255 := rd_byte l hb 3
  have b4 : 0 ≤ rd l 4 ∧ rd l 4 ≤ 255 := rd_byte l hb 4
  have b5 : 0 ≤ rd l 5 ∧ rd l 5 ≤ 255 := rd_byte l hb 5
  have b6 : 0 ≤ rd l 6 ∧ rd l 6 ≤ 255 := rd_byte l hb 6
  have b7 : 0 ≤ rd l 7 ∧ rd l 7 ≤ 255 := rd_byte l hb 7
  have e := w8_eq l hb h8
  unfold utf8_word_byte.f
  repeat rw [if_pos (by omega)]
  rw [e]
  generalize rd l 0 = x0 at *
  generalize rd l 1 = x1 at *
  generalize rd l 2 = x2 at *
  generalize rd l 3 = x3 at *
  generalize rd l 4 = x4 at *
  generalize rd l 5 = x5 at *
  generalize rd l 6 = x6 at *
  generalize rd l 7 = x7 at *
  clear e
  congr 1
  simp (disch := omega) only [u64_wrap_id, u64_or8, u64_or16, u64_or24, u64_or32, u64_or40, u64_or48, u64_or56]
end Go.Proofs.YtoihcdahloddkaaDoor.P
