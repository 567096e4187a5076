/- base64 as a plain function: a text's letters, and lines of them; what the walk of Encode tells is just that. -/
import Derived.Test.YtnmojlolgioijaaDoorEvs
import Derived.Test.YtnmojlolgioijaaDoorPx1
import Derived.Test.YtnmojlolgioijaaDoorPx3
set_option linter.unusedVariables false
set_option linter.unusedSimpArgs false
set_option linter.unusedSectionVars false
namespace Go.Proofs.YtnmojlolgioijaaDoor.B64
open Go.RowKit Go.Proofs.YtnmojlolgioijaaDoor.P Go.Proofs.YtnmojlolgioijaaDoorW.PrintWords Go.Proofs.YtnmojlolgioijaaDoorW.PrintLast Go.Proofs.YtnmojlolgioijaaDoorW.PrintMore Go.Proofs.YtnmojlolgioijaaDoor.Aids

def L (n : Int) : Int := rd b64_lets n
theorem L_range (n : Int) (h0 : 0 ≤ n) (h1 : n < 64) : 43 ≤ L n ∧ L n ≤ 122 ∧ L n ≠ 61 := by
  obtain ⟨m, rfl⟩ := Int.eq_ofNat_of_zero_le h0
  have all : ∀ m : Nat, m < 64 → 43 ≤ L (m : Int) ∧ L (m : Int) ≤ 122 ∧ L (m : Int) ≠ 61 := by decide +kernel
  exact all m (by omega)
/-- a row's letters, without lines -/
def E : List Int → List Int
  | [] => []
  | [a] => [L (a / 4), L (a % 4 * 16), 61, 61]
  | [a, b] => [L (a / 4), L (a % 4 * 16 + b / 16), L (b % 16 * 4), 61]
  | a :: b :: c :: t => L (a / 4) :: L (a % 4 * 16 + b / 16) :: L (b % 16 * 4 + c / 64) :: L (c % 64) :: E t
theorem wraps (n : Int) (h0 : 0 ≤ n) (h1 : n < 2 ^ 63) : IntKind.i64.wrap n = n := by rw [IntKind.wrap_i64]; omega
theorem and63 (x : Int) (h0 : 0 ≤ x) (h1 : x < 16777216) : Go.bits .and .i64 x 63 = x % 64 :=
  bits_mask .i64 63 (by decide) wraps 6 (by decide) x h0 (by omega)
theorem or_byte (x b : Int) (h0 : 0 ≤ x) (h1 : x < 65536) (hb : 0 ≤ b ∧ b ≤ 255) : Go.bits .or .i64 (wrap64 (x * 256)) (wrap64 b) = x * 256 + b := by
  rw [w64 (by omega) (by omega), w64 (by omega) (by omega)]
  exact bits_join .i64 63 (by decide) wraps 8 (x * 256) b (by omega) (by omega) (by omega) hb.1 (by omega) (by omega)
/-- a row of letters through the closure -/
def step (w : Int) (s : List Int × Int) (c : Int) : List Int × Int := (b64_putL w s.1 s.2 c, b64_putC w s.2)
def puts (w : Int) (s : List Int × Int) (cs : List Int) : List Int × Int := cs.foldl (step w) s
theorem puts_append (w : Int) (s : List Int × Int) (a b : List Int) : puts w s (a ++ b) = puts w (puts w s a) b := List.foldl_append
theorem four (w x n : Int) (T : List Int) (col : Int) : b64_four w x n T col 4 = puts w (T, col) [b64_at x n 0, b64_at x n 1, b64_at x n 2, b64_at x n 3] := rfl
theorem at_le {x n : Int} {i : Nat} (h : (i : Int) ≤ n) (h0 : 0 ≤ x / 2 ^ (6 * (3 - i))) (h1 : x / 2 ^ (6 * (3 - i)) < 16777216) : b64_at x n i = L (x / 2 ^ (6 * (3 - i)) % 64) := by
  unfold b64_at; rw [if_neg (by omega), and63 _ h0 h1]; rfl
theorem at_gt {x n : Int} {i : Nat} (h : (i : Int) > n) : b64_at x n i = 61 := if_pos h
theorem x1 (a : Int) (ha : 0 ≤ a ∧ a ≤ 255) : b64_x [a] 1 3 = a * 65536 := by
  have r0 : rd [a] ((0 : Nat) : Int) = a := rfl
  have h : b64_x [a] 1 1 = a := by
    show (if ((0 : Nat) : Int) < 1 then Go.bits .or .i64 (wrap64 (0 * 256)) (wrap64 (rd [a] ((0 : Nat) : Int))) else _) = a
    rw [if_pos (by decide), r0, or_byte 0 a (by decide) (by decide) ha]; omega
  have h2 : b64_x [a] 1 2 = a * 256 := by
    show (if ((1 : Nat) : Int) < 1 then _ else wrap64 (b64_x [a] 1 1 * 256)) = _
    rw [if_neg (by decide), h, w64 (by omega) (by omega)]
  show (if ((2 : Nat) : Int) < 1 then _ else wrap64 (b64_x [a] 1 2 * 256)) = _
  rw [if_neg (by decide), h2, w64 (by omega) (by omega)]; omega
theorem x2 (a b : Int) (ha : 0 ≤ a ∧ a ≤ 255) (hb : 0 ≤ b ∧ b ≤ 255) : b64_x [a, b] 2 3 = (a * 256 + b) * 256 := by
  have r0 : rd [a, b] ((0 : Nat) : Int) = a := rfl
  have r1 : rd [a, b] ((1 : Nat) : Int) = b := rfl
  have h : b64_x [a, b] 2 1 = a := by
    show (if ((0 : Nat) : Int) < 2 then Go.bits .or .i64 (wrap64 (0 * 256)) (wrap64 (rd [a, b] ((0 : Nat) : Int))) else _) = a
    rw [if_pos (by decide), r0, or_byte 0 a (by decide) (by decide) ha]; omega
  have h2 : b64_x [a, b] 2 2 = a * 256 + b := by
    show (if ((1 : Nat) : Int) < 2 then Go.bits .or .i64 (wrap64 (b64_x [a, b] 2 1 * 256)) (wrap64 (rd [a, b] ((1 : Nat) : Int))) else _) = _
    rw [if_pos (by decide), r1, h, or_byte a b (by omega) (by omega) hb]
  show (if ((2 : Nat) : Int) < 2 then _ else wrap64 (b64_x [a, b] 2 2 * 256)) = _
  rw [if_neg (by decide), h2, w64 (by omega) (by omega)]
theorem x3 (a b c : Int) (t : List Int) (ha : 0 ≤ a ∧ a ≤ 255) (hb : 0 ≤ b ∧ b ≤ 255) (hc : 0 ≤ c ∧ c ≤ 255) : b64_x (a :: b :: c :: t) 3 3 = (a * 256 + b) * 256 + c := by
  have r0 : rd (a :: b :: c :: t) ((0 : Nat) : Int) = a := rfl
  have r1 : rd (a :: b :: c :: t) ((1 : Nat) : Int) = b := rfl
  have r2 : rd (a :: b :: c :: t) ((2 : Nat) : Int) = c := rfl
  have h : b64_x (a :: b :: c :: t) 3 1 = a := by
    show (if ((0 : Nat) : Int) < 3 then Go.bits .or .i64 (wrap64 (0 * 256)) (wrap64 (rd (a :: b :: c :: t) ((0 : Nat) : Int))) else _) = a
    rw [if_pos (by decide), r0, or_byte 0 a (by decide) (by decide) ha]; omega
  have h2 : b64_x (a :: b :: c :: t) 3 2 = a * 256 + b := by
    show (if ((1 : Nat) : Int) < 3 then Go.bits .or .i64 (wrap64 (b64_x (a :: b :: c :: t) 3 1 * 256)) (wrap64 (rd (a :: b :: c :: t) ((1 : Nat) : Int))) else _) = _
    rw [if_pos (by decide), r1, h, or_byte a b (by omega) (by omega) hb]
  show (if ((2 : Nat) : Int) < 3 then Go.bits .or .i64 (wrap64 (b64_x (a :: b :: c :: t) 3 2 * 256)) (wrap64 (rd (a :: b :: c :: t) ((2 : Nat) : Int))) else _) = _
  rw [if_pos (by decide), r2, h2, or_byte (a * 256 + b) c (by omega) (by omega) hc]
theorem all_step (w : Int) {l : List Int} {n : Nat} (h0 : l ≠ []) (hn : n = min l.length 3) (T : List Int) (col : Int) {g : List Int}
    (hg : [b64_at (b64_x l (n : Int) 3) (n : Int) 0, b64_at (b64_x l (n : Int) 3) (n : Int) 1, b64_at (b64_x l (n : Int) 3) (n : Int) 2, b64_at (b64_x l (n : Int) 3) (n : Int) 3] = g) :
    b64_all w l.length l T col = b64_all w (l.drop n).length (l.drop n) (puts w (T, col) g).1 (puts w (T, col) g).2 := by
  rw [b64_step w h0 hn, four, hg]
theorem all_puts (w : Int) : ∀ (l : List Int) (T : List Int) (col : Int), byte l → b64_all w l.length l T col = puts w (T, col) (E l)
  | [], T, col, h => rfl
  | [a], T, col, h => by
    have ha := h a (by simp)
    rw [all_step w (n := 1) (g := E [a]) (by simp) rfl T col ?_]
    · rfl
    · show [b64_at (b64_x [a] 1 3) 1 0, b64_at (b64_x [a] 1 3) 1 1, b64_at (b64_x [a] 1 3) 1 2, b64_at (b64_x [a] 1 3) 1 3] = _
      rw [x1 a ha, at_le (by decide) (by omega) (by omega), at_le (by decide) (by omega) (by omega), at_gt (by decide), at_gt (by decide)]
      show [L _, L _, 61, 61] = [L _, L _, 61, 61]
      rw [show a * 65536 / 2 ^ (6 * (3 - 0)) % 64 = a / 4 by omega, show a * 65536 / 2 ^ (6 * (3 - 1)) % 64 = a % 4 * 16 by omega]
  | [a, b], T, col, h => by
    have ha := h a (by simp)
    have hb := h b (by simp)
    rw [all_step w (n := 2) (g := E [a, b]) (by simp) rfl T col ?_]
    · rfl
    · show [b64_at (b64_x [a, b] 2 3) 2 0, b64_at (b64_x [a, b] 2 3) 2 1, b64_at (b64_x [a, b] 2 3) 2 2, b64_at (b64_x [a, b] 2 3) 2 3] = _
      rw [x2 a b ha hb, at_le (by decide) (by omega) (by omega), at_le (by decide) (by omega) (by omega), at_le (by decide) (by omega) (by omega), at_gt (by decide)]
      show [L _, L _, L _, 61] = [L _, L _, L _, 61]
      rw [show (a * 256 + b) * 256 / 2 ^ (6 * (3 - 0)) % 64 = a / 4 by omega, show (a * 256 + b) * 256 / 2 ^ (6 * (3 - 1)) % 64 = a % 4 * 16 + b / 16 by omega, show (a * 256 + b) * 256 / 2 ^ (6 * (3 - 2)) % 64 = b % 16 * 4 by omega]
  | a :: b :: c :: t, T, col, h => by
    have ha := h a (by simp)
    have hb := h b (by simp)
    have hc := h c (by simp)
    rw [all_step w (n := 3) (g := [L (a / 4), L (a % 4 * 16 + b / 16), L (b % 16 * 4 + c / 64), L (c % 64)]) (by simp) (by simp) T col ?_]
    · show b64_all w t.length t _ _ = _
      rw [all_puts w t _ _ (fun x hx => h x (by simp [hx])), show E (a :: b :: c :: t) = [L (a / 4), L (a % 4 * 16 + b / 16), L (b % 16 * 4 + c / 64), L (c % 64)] ++ E t from rfl, puts_append]
    · show [b64_at (b64_x (a :: b :: c :: t) 3 3) 3 0, b64_at (b64_x (a :: b :: c :: t) 3 3) 3 1, b64_at (b64_x (a :: b :: c :: t) 3 3) 3 2, b64_at (b64_x (a :: b :: c :: t) 3 3) 3 3] = _
      rw [x3 a b c t ha hb hc, at_le (by decide) (by omega) (by omega), at_le (by decide) (by omega) (by omega), at_le (by decide) (by omega) (by omega), at_le (by decide) (by omega) (by omega)]
      rw [show ((a * 256 + b) * 256 + c) / 2 ^ (6 * (3 - 0)) % 64 = a / 4 by omega, show ((a * 256 + b) * 256 + c) / 2 ^ (6 * (3 - 1)) % 64 = a % 4 * 16 + b / 16 by omega, show ((a * 256 + b) * 256 + c) / 2 ^ (6 * (3 - 2)) % 64 = b % 16 * 4 + c / 64 by omega, show ((a * 256 + b) * 256 + c) / 2 ^ (6 * (3 - 3)) % 64 = c % 64 by omega]
theorem E_len : ∀ l : List Int, (E l).length = (l.length + 2) / 3 * 4
  | [] => rfl
  | [a] => by simp [E]
  | [a, b] => by simp [E]
  | a :: b :: c :: t => by
    have := E_len t
    show (E t).length + 4 = _
    simp only [List.length_cons]; omega
theorem E_chars : ∀ l : List Int, byte l → ∀ x ∈ E l, 43 ≤ x ∧ x ≤ 122
  | [], h, x, hx => by cases hx
  | [a], h, x, hx => by
    have ha := h a (by simp)
    have r1 := L_range (a / 4) (by omega) (by omega)
    have r2 := L_range (a % 4 * 16) (by omega) (by omega)
    simp only [E, List.mem_cons, List.not_mem_nil, or_false] at hx
    rcases hx with rfl | rfl | rfl | rfl <;> omega
  | [a, b], h, x, hx => by
    have ha := h a (by simp)
    have hb := h b (by simp)
    have r1 := L_range (a / 4) (by omega) (by omega)
    have r2 := L_range (a % 4 * 16 + b / 16) (by omega) (by omega)
    have r3 := L_range (b % 16 * 4) (by omega) (by omega)
    simp only [E, List.mem_cons, List.not_mem_nil, or_false] at hx
    rcases hx with rfl | rfl | rfl | rfl <;> omega
  | a :: b :: c :: t, h, x, hx => by
    have ha := h a (by simp)
    have hb := h b (by simp)
    have hc := h c (by simp)
    have r1 := L_range (a / 4) (by omega) (by omega)
    have r2 := L_range (a % 4 * 16 + b / 16) (by omega) (by omega)
    have r3 := L_range (b % 16 * 4 + c / 64) (by omega) (by omega)
    have r4 := L_range (c % 64) (by omega) (by omega)
    have ih := E_chars t (fun y hy => h y (by simp [hy])) x
    simp only [E, List.mem_cons] at hx
    rcases hx with rfl | rfl | rfl | rfl | hx
    · omega
    · omega
    · omega
    · omega
    · exact ih hx
theorem E_byte {l : List Int} (h : byte l) : byte (E l) := fun x hx => by have := E_chars l h x hx; omega

/-- lines of so many -/
def ch (w : Nat) : Nat → List Int → List Int
  | 0, _ => []
  | d + 1, p => if p = [] then [] else p.take w ++ [13, 10] ++ ch w d (p.drop w)
theorem putL_ne {w col c : Int} (T : List Int) (h : ¬ wrap64 (col + 1) = w) : step w (T, col) c = (T ++ [c], wrap64 (col + 1)) := by
  unfold step b64_putL b64_putC; rw [if_neg h, if_neg h]
theorem putL_eq {w col c : Int} (T : List Int) (h : wrap64 (col + 1) = w) : step w (T, col) c = (T ++ [c] ++ [13, 10], 0) := by
  unfold step b64_putL b64_putC; rw [if_pos h, if_pos h]
theorem puts_low {w : Int} (hw : w ≤ 0) : ∀ (cs T : List Int) (col : Int), 0 ≤ col → col + cs.length ≤ 1000000 → puts w (T, col) cs = (T ++ cs, col + cs.length)
  | [], T, col, h0, h1 => by show (T, col) = _; simp
  | c :: cs, T, col, h0, h1 => by
    simp only [List.length_cons] at h1
    have e : wrap64 (col + 1) = col + 1 := w64 (by omega) (by omega)
    show puts w (step w (T, col) c) cs = _
    rw [putL_ne T (by rw [e]; omega), e, puts_low hw cs _ _ (by omega) (by omega)]
    simp only [List.append_assoc, List.singleton_append, List.length_cons, Prod.mk.injEq, true_and]; omega
theorem puts_lt {w : Int} (hw : w ≤ 9223372036854775807) : ∀ (cs T : List Int) (col : Int), 0 ≤ col → col + cs.length < w → puts w (T, col) cs = (T ++ cs, col + cs.length)
  | [], T, col, h0, h1 => by show (T, col) = _; simp
  | c :: cs, T, col, h0, h1 => by
    simp only [List.length_cons] at h1
    have e : wrap64 (col + 1) = col + 1 := w64 (by omega) (by omega)
    show puts w (step w (T, col) c) cs = _
    rw [putL_ne T (by rw [e]; omega), e, puts_lt hw cs _ _ (by omega) (by omega)]
    simp only [List.append_assoc, List.singleton_append, List.length_cons, Prod.mk.injEq, true_and]; omega
theorem puts_eq {w : Int} (hw : w ≤ 9223372036854775807) (cs T : List Int) (hl : (cs.length : Int) = w) (h1 : 1 ≤ w) : puts w (T, 0) cs = (T ++ cs ++ [13, 10], 0) := by
  rcases List.eq_nil_or_concat cs with rfl | ⟨i, c, rfl⟩
  · simp at hl; omega
  · simp only [List.concat_eq_append, List.length_append, List.length_cons, List.length_nil] at hl ⊢
    rw [puts_append, puts_lt hw i T 0 (by omega) (by omega)]
    show step w _ c = _
    rw [putL_eq (T ++ i) (by rw [w64 (by omega) (by omega)]; omega), List.append_assoc T i]
theorem done_ch {w : Int} (hw : w ≤ 9223372036854775807) (h1 : 1 ≤ w) : ∀ (d : Nat) (p T : List Int), p.length ≤ d → b64_done w (puts w (T, 0) p) = T ++ ch w.toNat d p
  | 0, p, T, h => by
    have : p = [] := List.eq_nil_of_length_eq_zero (by omega)
    subst this
    show b64_done w (T, 0) = _
    unfold b64_done; rw [if_pos (by omega), if_neg (show ¬ 0 < (T, (0 : Int)).2 from by show ¬ (0 : Int) < 0; decide)]; simp [ch]
  | d + 1, p, T, h => by
    by_cases hp : p = []
    · subst hp
      show b64_done w (T, 0) = _
      unfold b64_done; rw [if_pos (by omega), if_neg (show ¬ 0 < (T, (0 : Int)).2 from by show ¬ (0 : Int) < 0; decide)]; simp [ch]
    · have hpos : 0 < p.length := List.length_pos_iff.2 hp
      unfold ch
      rw [if_neg hp]
      by_cases hlt : (p.length : Int) < w
      · rw [puts_lt hw p T 0 (by omega) (by omega), List.take_of_length_le (by omega), List.drop_eq_nil_of_le (by omega)]
        unfold b64_done
        rw [if_pos (by omega), if_pos (show 0 < (T ++ p, 0 + (p.length : Int)).2 by show 0 < 0 + (p.length : Int); omega)]
        have : ch w.toNat d [] = [] := by cases d <;> simp [ch]
        rw [this]; simp
      · have e : p = p.take w.toNat ++ p.drop w.toNat := (List.take_append_drop _ _).symm
        have hl : ((p.take w.toNat).length : Int) = w := by rw [List.length_take]; omega
        conv => lhs; rw [e, puts_append, puts_eq hw _ T hl h1]
        rw [done_ch hw h1 d _ _ (by rw [List.length_drop]; omega)]
        simp only [List.append_assoc]
/-- what Encode tells -/
def enc (l : List Int) (w : Int) : List Int := if w < 1 then E l else ch w.toNat (E l).length (E l)
theorem enc_eq (l : List Int) (w : Int) (hb : byte l) (hl : l.length ≤ 10000) (hw : w ≤ 9223372036854775807) : b64_Encode.f l w = some (enc l w) := by
  unfold b64_Encode.f
  rw [if_pos hl, all_puts w l [] 0 hb]
  have hlen := E_len l
  unfold enc
  by_cases h : w < 1
  · rw [if_pos h, puts_low (by omega) _ _ _ (by omega) (by omega)]
    unfold b64_done
    rw [if_neg (by omega)]; simp
  · rw [if_neg h, done_ch hw (by omega) _ _ _ (Nat.le_refl _)]; simp
end Go.Proofs.YtnmojlolgioijaaDoor.B64
