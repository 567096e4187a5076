/- The document's letters and lines are the same plain function. -/
import Derived.Test.YtnmojlolgioijaaDoorEnc
set_option linter.unusedVariables false
set_option linter.unusedSimpArgs false
namespace Go.Proofs.YtnmojlolgioijaaDoor.B64
open Go.RowKit Go.Proofs.YtnmojlolgioijaaDoor.P Go.Proofs.YtnmojlolgioijaaDoorW.PrintWords Go.Proofs.YtnmojlolgioijaaDoorW.PrintLast Go.Proofs.YtnmojlolgioijaaDoorW.PrintMore Go.Proofs.YtnmojlolgioijaaDoor.Aids

theorem letter_eq (n : Int) (h0 : 0 ≤ n) (h1 : n < 64) : letterboxref02_letter.f n = some (strOfNums [L n]) := by
  obtain ⟨m, rfl⟩ := Int.eq_ofNat_of_zero_le h0
  have e : wrap64 ((m : Int) + 1) = (m : Int) + 1 := w64 (by omega) (by omega)
  unfold letterboxref02_letter.f
  rw [e, if_pos (by omega), if_pos (by omega), if_pos (by omega)]
  have all : ∀ n : Nat, n < 64 → bytesOf ((⟨#[65, 66, 67, 68, 69, 70, 71, 72, 73, 74, 75, 76, 77, 78, 79, 80, 81, 82, 83, 84, 85, 86, 87, 88, 89, 90, 97, 98, 99, 100, 101, 102, 103, 104, 105, 106, 107, 108, 109, 110, 111, 112, 113, 114, 115, 116, 117, 118, 119, 120, 121, 122, 48, 49, 50, 51, 52, 53, 54, 55, 56, 57, 43, 47]⟩ : ByteArray).extract (n : Int).toNat ((n : Int) + 1).toNat) = bytesOf (strOfNums [L (n : Int)]) := by decide +kernel
  exact congrArg some (bytes_inj (all m (by omega)))
theorem letE {f : Nat → ByteArray → Option ByteArray} {r : ByteArray} {m n : Int} (e : m = n) (h0 : 0 ≤ n) (h1 : n < 64) (h : Ev (fun k => f k (strOfNums [L n])) r) : Ev (fun k => (letterboxref02_letter.f m).bind (f k)) r := by
  rw [e, letter_eq n h0 h1]; exact h
theorem plain_l0 (x : List Int) (hx : byte x) (hl : x.length ≤ 100000) (d : Nat) : ∀ (i : Nat) (acc : List Int), x.length - i ≤ d → i ≤ x.length → acc.length ≤ 4 * i →
    Ev (fun k => letterboxref02_Plain.l0 k (strOfNums x) (strOfNums acc) (i : Int)) (strOfNums (acc ++ E (x.drop i))) := by
  induction d using Nat.strongRecOn with
  | _ d ih =>
    intro i acc hd hi ha
    have e1 : wrap64 ((i : Int) + 1) = ((i + 1 : Nat) : Int) := by rw [w64 (by omega) (by omega)]; omega
    have e2 : wrap64 ((i : Int) + 2) = ((i + 2 : Nat) : Int) := by rw [w64 (by omega) (by omega)]; omega
    have e3 : wrap64 ((i : Int) + 3) = ((i + 3 : Nat) : Int) := by rw [w64 (by omega) (by omega)]; omega
    refine st (fun k => by rw [letterboxref02_Plain.l0]) ?_
    simp only [strOfNums_size, str_bt x hx, e1]
    rcases hdr : x.drop i with _ | ⟨a, t1⟩
    · have : x.length ≤ i := by
        have := congrArg List.length hdr
        rw [List.length_drop] at this; simp at this; omega
      exact no (by omega) (fin (by simp [E]))
    · obtain ⟨hlt, ra, hd1⟩ := drop_cons hdr
      have ha1 : 0 ≤ a ∧ a ≤ 255 := by rw [← ra]; exact hx _ (rd_mem x i hlt)
      have wa : wrap64 a = a := w64 (by omega) (by omega)
      rw [ra, wa]
      refine yes (by omega) (yes (by omega) ?_)
      rcases t1 with _ | ⟨b, t2⟩
      · have hlen : x.length = i + 1 := by
          have := congrArg List.length hd1
          rw [List.length_drop] at this; simp at this; omega
        refine no (by omega) ?_
        refine st (fun k => by rw [letterboxref02_Plain.j1]) ?_
        simp only [strOfNums_size, e2]
        refine no (by omega) ?_
        refine st (fun k => by rw [letterboxref02_Plain.j2]) ?_
        have q1 : wrap64 (Int.tdiv a 4) = a / 4 := by rw [tdiv_pos ha1.1]; exact w64 (by omega) (by omega)
        have q2 : wrap64 ((wrap64 ((Int.tmod a 4) * 16)) + (wrap64 (Int.tdiv 0 16))) = a % 4 * 16 := by
          rw [tmod_pos ha1.1, show Int.tdiv 0 16 = 0 from rfl, w64 (x := a % 4 * 16) (by omega) (by omega), w64 (x := 0) (by omega) (by omega), w64 (by omega) (by omega)]; omega
        refine letE q1 (by omega) (by omega) (letE q2 (by omega) (by omega) ?_)
        simp only [strOfNums_size, str_append, show (⟨#[61]⟩ : ByteArray) = strOfNums [61] from rfl, e1, e2]
        refine yes (by simp) (yes (by simp; omega) (no (by omega) (yes (by simp; omega) (no (by omega) (yes (by simp; omega) ?_)))))
        rw [e3]
        refine st (fun k => by rw [letterboxref02_Plain.l0]) ?_
        simp only [strOfNums_size]
        exact no (by omega) (fin (by simp [E]))
      · obtain ⟨hlt2, rb, hd2⟩ := drop_cons hd1
        have hb1 : 0 ≤ b ∧ b ≤ 255 := by rw [← rb]; exact hx _ (rd_mem x (i + 1) hlt2)
        have wb : wrap64 b = b := w64 (by omega) (by omega)
        refine yes (by omega) (yes (by omega) ?_)
        rw [rb, wb]
        have q1 : wrap64 (Int.tdiv a 4) = a / 4 := by rw [tdiv_pos ha1.1]; exact w64 (by omega) (by omega)
        have q2 : wrap64 ((wrap64 ((Int.tmod a 4) * 16)) + (wrap64 (Int.tdiv b 16))) = a % 4 * 16 + b / 16 := by
          rw [tmod_pos ha1.1, tdiv_pos hb1.1, w64 (x := a % 4 * 16) (by omega) (by omega), w64 (x := b / 16) (by omega) (by omega), w64 (by omega) (by omega)]
        refine st (fun k => by rw [letterboxref02_Plain.j1]) ?_
        simp only [strOfNums_size, e2, str_bt x hx]
        rcases t2 with _ | ⟨c, t3⟩
        · have hlen : x.length = i + 2 := by
            have := congrArg List.length hd2
            rw [List.length_drop] at this; simp at this; omega
          refine no (by omega) ?_
          refine st (fun k => by rw [letterboxref02_Plain.j2]) ?_
          have q3 : wrap64 ((wrap64 ((Int.tmod b 16) * 4)) + (wrap64 (Int.tdiv 0 64))) = b % 16 * 4 := by
            rw [tmod_pos hb1.1, show Int.tdiv 0 64 = 0 from rfl, w64 (x := b % 16 * 4) (by omega) (by omega), w64 (x := 0) (by omega) (by omega), w64 (by omega) (by omega)]; omega
          refine letE q1 (by omega) (by omega) (letE q2 (by omega) (by omega) ?_)
          simp only [strOfNums_size, str_append, show (⟨#[61]⟩ : ByteArray) = strOfNums [61] from rfl, e1, e2]
          refine yes (by simp) (yes (by simp; omega) (yes (by omega) (letE q3 (by omega) (by omega) ?_)))
          simp only [strOfNums_size, str_append]
          refine yes (by simp; omega) (no (by omega) (yes (by simp; omega) ?_))
          rw [e3]
          refine st (fun k => by rw [letterboxref02_Plain.l0]) ?_
          simp only [strOfNums_size]
          exact no (by omega) (fin (by simp [E]))
        · obtain ⟨hlt3, rc, hd3⟩ := drop_cons hd2
          have hc1 : 0 ≤ c ∧ c ≤ 255 := by rw [← rc]; exact hx _ (rd_mem x (i + 2) hlt3)
          have wc : wrap64 c = c := w64 (by omega) (by omega)
          refine yes (by omega) (yes (by omega) ?_)
          rw [rc, wc]
          refine st (fun k => by rw [letterboxref02_Plain.j2]) ?_
          have q3 : wrap64 ((wrap64 ((Int.tmod b 16) * 4)) + (wrap64 (Int.tdiv c 64))) = b % 16 * 4 + c / 64 := by
            rw [tmod_pos hb1.1, tdiv_pos hc1.1, w64 (x := b % 16 * 4) (by omega) (by omega), w64 (x := c / 64) (by omega) (by omega), w64 (by omega) (by omega)]
          refine letE q1 (by omega) (by omega) (letE q2 (by omega) (by omega) ?_)
          simp only [strOfNums_size, str_append, show (⟨#[61]⟩ : ByteArray) = strOfNums [61] from rfl, e1, e2]
          refine yes (by simp) (yes (by simp; omega) (yes (by omega) (letE q3 (by omega) (by omega) ?_)))
          simp only [strOfNums_size, str_append]
          refine yes (by simp; omega) (yes (by omega) (letE (tmod_pos hc1.1) (by omega) (by omega) ?_))
          simp only [strOfNums_size, str_append]
          refine yes (by simp; omega) ?_
          rw [e3]
          have := ih (d - 1) (by omega) (i + 3) (acc ++ ([L (a / 4)] ++ [L (a % 4 * 16 + b / 16)]) ++ [L (b % 16 * 4 + c / 64)] ++ [L (c % 64)]) (by omega) (by omega) (by simp; omega)
          rw [hd3] at this
          refine toE this ?_
          simp [E]
theorem plain_eq (x : List Int) (hx : byte x) (hl : x.length ≤ 100000) : Ev (fun k => letterboxref02_Plain.f k (strOfNums x)) (strOfNums (E x)) := by
  have := plain_l0 x hx hl x.length 0 [] (by omega) (by omega) (by simp)
  exact this
theorem ref_l0 (w : Int) (h1 : 1 ≤ w) (hw : w ≤ 9223372036854775807) (d : Nat) : ∀ (p o : List Int), p.length ≤ d → o.length + 3 * p.length ≤ 10000000 →
    Ev (fun k => letterboxref02_Encode.l0 k w (strOfNums p) (strOfNums o)) (strOfNums (o ++ ch w.toNat d p)) := by
  induction d with
  | zero =>
    intro p o hd ho
    have : p = [] := List.eq_nil_of_length_eq_zero (by omega)
    subst this
    refine st (fun k => by rw [letterboxref02_Encode.l0]) ?_
    exact no (by rw [strOfNums_size]; simp) (fin (by simp [ch]))
  | succ d ih =>
    intro p o hd ho
    refine st (fun k => by rw [letterboxref02_Encode.l0]) ?_
    simp only [strOfNums_size, str_extract, show (⟨#[13, 10]⟩ : ByteArray) = strOfNums [13, 10] from rfl, str_append]
    unfold ch
    by_cases hp : p = []
    · subst hp
      exact no (by simp) (fin (by simp))
    · have hpos : 0 < p.length := List.length_pos_iff.2 hp
      rw [if_neg hp]
      refine yes (by omega) ?_
      by_cases hlt : w > (p.length : Int)
      · refine yes hlt (yes (by omega) (yes (by omega) (yes ?_ (yes ?_ ?_))))
        · simp; omega
        · simp; omega
        · have := ih [] (o ++ (p ++ [13, 10])) (by simp) (by simp; omega)
          have e1 : (p.drop w.toNat) = [] := List.drop_eq_nil_of_le (by omega)
          rw [e1, List.take_of_length_le (by omega)]
          simp only [Int.toNat_natCast, List.take_length, List.drop_zero, List.drop_length]
          refine toE this ?_
          rw [List.take_of_length_le (show p.length ≤ w.toNat by omega)]
          simp only [List.append_assoc]
      · refine no hlt (yes (by omega) (yes (by omega) (yes ?_ (yes ?_ ?_))))
        · simp; omega
        · simp; omega
        · have := ih (p.drop w.toNat) (o ++ (p.take w.toNat ++ [13, 10])) (by simp; omega) (by simp; omega)
          simp only [List.take_length, List.drop_zero]
          refine toE this ?_
          simp only [List.append_assoc]
theorem renc_eq (x : List Int) (w : Int) (hx : byte x) (hl : x.length ≤ 100000) (hw : w ≤ 9223372036854775807) : Ev (fun k => letterboxref02_Encode.f k (strOfNums x) w) (strOfNums (enc x w)) := by
  refine bnd (plain_eq x hx hl) ?_
  unfold enc
  by_cases h : w < 1
  · exact yes h (fin (by rw [if_pos h]))
  · refine no h ?_
    rw [if_neg h]
    have := ref_l0 w (by omega) hw (E x).length (E x) [] (Nat.le_refl _) (by have := E_len x; simp; omega)
    exact this
end Go.Proofs.YtnmojlolgioijaaDoor.B64
