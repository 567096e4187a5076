/- The reference's Encode is the same plain function. -/
import Derived.Test.YtcnbkblnchechaaEnc
import Derived.Test.YtcnbkblnchechaaRDec
import Derived.Test.YtcnbkblnchechaaPx7
set_option linter.unusedVariables false
set_option linter.unusedSimpArgs false
namespace Go.Proofs.Ytcnbkblnchechaa.Qp
open Go.RowKit Go.Proofs.Ytcnbkblnchechaa.P Go.Proofs.YtcnbkblnchechaaW.PrintWords Go.Proofs.YtcnbkblnchechaaW.PrintLast Go.Proofs.YtcnbkblnchechaaW.PrintMore Go.Proofs.Ytcnbkblnchechaa.Aids

theorem ext_hex (d : Int) (h0 : 0 ≤ d) (h1 : d ≤ 15) : (⟨#[48, 49, 50, 51, 52, 53, 54, 55, 56, 57, 65, 66, 67, 68, 69, 70]⟩ : ByteArray).extract d.toNat (d + 1).toNat = strOfNums [hex d] := by
  obtain ⟨n, rfl⟩ := Int.eq_ofNat_of_zero_le h0
  have all : ∀ n : Nat, n < 16 → bytesOf ((⟨#[48, 49, 50, 51, 52, 53, 54, 55, 56, 57, 65, 66, 67, 68, 69, 70]⟩ : ByteArray).extract (n : Int).toNat ((n : Int) + 1).toNat) = bytesOf (strOfNums [hex (n : Int)]) := by decide +kernel
  exact bytes_inj (all n (by omega))
theorem renc_l0 (x : List Int) (hx : byte x) (hl : x.length ≤ 100000) (d : Nat) : ∀ (i : Nat) (acc : List Int), x.length - i ≤ d → i ≤ x.length → acc.length ≤ 3 * i →
    Ev (fun k => letterboxref03_Encode.l0 k (strOfNums x) (strOfNums acc) (i : Int)) (strOfNums (acc ++ encS (x.drop i))) := by
  induction d with
  | zero =>
    intro i acc hd hi ha
    refine st (fun k => by rw [letterboxref03_Encode.l0]) ?_
    exact no (by rw [strOfNums_size]; omega) (fin (by rw [List.drop_eq_nil_of_le (by omega), encS_nil, List.append_nil]))
  | succ d ih =>
    intro i acc hd hi ha
    refine st (fun k => by rw [letterboxref03_Encode.l0]) ?_
    simp only [strOfNums_size, str_bt x hx]
    by_cases hlt : i < x.length
    · have hb := hx _ (rd_mem x i hlt)
      have e1 : wrap64 ((i : Int) + 1) = ((i + 1 : Nat) : Int) := by rw [w64 (by omega) (by omega)]; omega
      have ex1 : (strOfNums x).extract i (i + 1) = strOfNums [rd x (i : Int)] := by
        rw [str_extract, List.drop_take, drop_rd x i hlt, show i + 1 - i = 1 by omega]; simp
      rw [drop_rd x i hlt, encS_cons]
      simp only [e1, Int.toNat_natCast, ex1]
      refine yes (by omega) (yes (by omega) ?_)
      generalize rd x (i : Int) = c at *
      have h3 : ∀ y : List Int, y = encB c → Ev (fun k => letterboxref03_Encode.l0 k (strOfNums x) (strOfNums (acc ++ y)) ((i + 1 : Nat) : Int)) (strOfNums (acc ++ (encB c ++ encS (x.drop (i + 1))))) := by
        intro y hy
        have := encB_len c
        rw [hy, ← List.append_assoc]
        exact ih (i + 1) (acc ++ encB c) (by omega) (by omega) (by rw [List.length_append]; omega)
      have q1 : Int.tdiv c 16 % 256 = c / 16 := by rw [tdiv_pos hb.1]; omega
      have q2 : Int.tmod c 16 = c % 16 := tmod_pos hb.1
      have q3 : (c / 16 + 1) % 256 = c / 16 + 1 := by omega
      have q4 : (c % 16 + 1) % 256 = c % 16 + 1 := by omega
      simp only [q1, q2, q3, q4, ext_hex (c / 16) (by omega) (by omega), ext_hex (c % 16) (by omega) (by omega), show (⟨#[61]⟩ : ByteArray) = strOfNums [61] from rfl, str_append, strOfNums_size]
      have he : ¬ (33 ≤ c ∧ c ≤ 126 ∧ c ≠ 61) → [61] ++ [hex (c / 16)] ++ [hex (c % 16)] = encB c := by
        intro hn
        unfold encB; rw [if_neg hn]; rfl
      by_cases a1 : c > 32
      · refine yes a1 ?_
        by_cases a2 : c < 127
        · refine yes a2 ?_
          by_cases a3 : c = 61
          · exact yes a3 (yes (by omega) (yes (by omega) (yes (by omega) (yes (by simp) (yes (by omega) (yes (by omega) (yes (by omega) (yes (by simp) (yes (by simp; omega) (h3 _ (he (fun h => h.2.2 a3)))))))))))) 
          · exact no a3 (yes (by omega) (yes (by omega) (yes (by simp; omega) (h3 [c] (by unfold encB; rw [if_pos ⟨by omega, by omega, a3⟩])))))
        · exact no a2 (yes (by omega) (yes (by omega) (yes (by omega) (yes (by simp) (yes (by omega) (yes (by omega) (yes (by omega) (yes (by simp) (yes (by simp; omega) (h3 _ (he (fun h => a2 (by omega)))))))))))))
      · exact no a1 (yes (by omega) (yes (by omega) (yes (by omega) (yes (by simp) (yes (by omega) (yes (by omega) (yes (by omega) (yes (by simp) (yes (by simp; omega) (h3 _ (he (fun h => a1 (by omega)))))))))))))
    · exact no (by omega) (fin (by rw [List.drop_eq_nil_of_le (by omega), encS_nil, List.append_nil]))
theorem renc_eq (x : List Int) (hl : x.length ≤ 100000) (hx : byte x) : Ev (fun k => letterboxref03_Encode.f k (strOfNums x)) (strOfNums (encS x)) := by
  have := renc_l0 x hx hl x.length 0 [] (by omega) (by omega) (by simp)
  exact this
end Go.Proofs.Ytcnbkblnchechaa.Qp
