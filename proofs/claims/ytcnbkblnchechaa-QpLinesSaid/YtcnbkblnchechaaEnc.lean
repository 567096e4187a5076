/- A text of bytes (Encode), and how lines of such texts are decoded. -/
import Derived.Test.YtcnbkblnchechaaDec
import Derived.Test.YtcnbkblnchechaaPx4
set_option linter.unusedVariables false
set_option linter.unusedSimpArgs false
namespace Go.Proofs.Ytcnbkblnchechaa.Qp
open Go.RowKit Go.Proofs.Ytcnbkblnchechaa.P Go.Proofs.YtcnbkblnchechaaW.PrintWords Go.Proofs.YtcnbkblnchechaaW.PrintLast Go.Proofs.YtcnbkblnchechaaW.PrintMore Go.Proofs.Ytcnbkblnchechaa.Aids

def hex (d : Int) : Int := if d < 10 then 48 + d else 55 + d
def encB (c : Int) : List Int := if 33 ≤ c ∧ c ≤ 126 ∧ c ≠ 61 then [c] else [61, hex (c / 16), hex (c % 16)]
def encS (l : List Int) : List Int := l.flatMap encB
theorem encS_nil : encS [] = [] := rfl
theorem encS_cons (c : Int) (l : List Int) : encS (c :: l) = encB c ++ encS l := rfl
theorem encS_append (l m : List Int) : encS (l ++ m) = encS l ++ encS m := by simp [encS]
theorem encS_one (c : Int) : encS [c] = encB c := by simp [encS]
theorem V_hex (d : Int) (h0 : 0 ≤ d) (h1 : d ≤ 15) : V (hex d) = some d := by
  obtain ⟨n, rfl⟩ := Int.eq_ofNat_of_zero_le h0
  have all : ∀ n : Nat, n < 16 → V (hex (n : Int)) = some (n : Int) := by decide
  exact all n (by omega)
theorem hex_range (d : Int) (h0 : 0 ≤ d) (h1 : d ≤ 15) : 33 ≤ hex d ∧ hex d ≤ 126 ∧ hex d ≠ 61 := by
  unfold hex; split <;> omega
theorem encB_last (c : Int) (h0 : 0 ≤ c) (h1 : c ≤ 255) : ∃ m z, encB c = m ++ [z] ∧ z ≠ 61 ∧ 33 ≤ z ∧ z ≤ 126 := by
  unfold encB
  split
  · rename_i h; exact ⟨[], c, rfl, h.2.2, h.1, h.2.1⟩
  · have := hex_range (c % 16) (by omega) (by omega)
    exact ⟨[61, hex (c / 16)], _, rfl, this.2.2, this.1, this.2.1⟩
theorem encB_chars (c : Int) (h0 : 0 ≤ c) (h1 : c ≤ 255) : ∀ x ∈ encB c, 33 ≤ x ∧ x ≤ 126 := by
  intro x hx
  unfold encB at hx
  split at hx
  · rename_i h; rw [List.mem_singleton.1 hx]; exact ⟨h.1, h.2.1⟩
  · have r1 := hex_range (c / 16) (by omega) (by omega)
    have r2 := hex_range (c % 16) (by omega) (by omega)
    simp only [List.mem_cons, List.not_mem_nil, or_false] at hx
    rcases hx with rfl | rfl | rfl <;> omega
theorem encB_len (c : Int) : 1 ≤ (encB c).length ∧ (encB c).length ≤ 3 := by unfold encB; split <;> simp
theorem encS_chars {l : List Int} (h : ∀ c ∈ l, 0 ≤ c ∧ c ≤ 255) : ∀ x ∈ encS l, 33 ≤ x ∧ x ≤ 126 := by
  intro x hx
  simp only [encS, List.mem_flatMap] at hx
  obtain ⟨c, hc, hx⟩ := hx
  exact encB_chars c (h c hc).1 (h c hc).2 x hx
theorem encS_len (l : List Int) : (encS l).length ≤ 3 * l.length := by
  induction l with
  | nil => simp [encS]
  | cons c l ih =>
    have := encB_len c
    rw [encS_cons, List.length_append, List.length_cons]; omega
theorem encS_last {l : List Int} (h : ∀ c ∈ l, 0 ≤ c ∧ c ≤ 255) : encS l = [] ∨ ∃ m z, encS l = m ++ [z] ∧ z ≠ 61 ∧ 33 ≤ z ∧ z ≤ 126 := by
  rcases snoc_or l with rfl | ⟨m, c, rfl⟩
  · exact .inl rfl
  · have hc := h c (by simp)
    obtain ⟨u, z, hu, h1⟩ := encB_last c hc.1 hc.2
    exact .inr ⟨encS m ++ u, z, by rw [encS_append, encS_one, hu, List.append_assoc], h1⟩
theorem readS_encB (c : Int) (h0 : 0 ≤ c) (h1 : c ≤ 255) (r : List Int) : readS (encB c ++ r) = (readS r).map fun o => c :: o := by
  unfold encB
  split
  · rename_i h
    rw [List.singleton_append, readS_plain _ h.2.2 (Or.inr (Or.inr ⟨h.1, h.2.1⟩))]
  · show readS (61 :: hex (c / 16) :: hex (c % 16) :: r) = _
    rw [readS_hex, V_hex _ (by omega) (by omega), V_hex _ (by omega) (by omega)]
    simp only [Option.bind_some]
    rw [show 16 * (c / 16) + c % 16 = c by omega]
theorem readS_enc (l : List Int) (h : ∀ c ∈ l, 0 ≤ c ∧ c ≤ 255) (r : List Int) : readS (encS l ++ r) = (readS r).map fun o => l ++ o := by
  induction l with
  | nil => rw [encS_nil]; simp
  | cons c l ih =>
    have hc := h c List.mem_cons_self
    rw [encS_cons, List.append_assoc, readS_encB c hc.1 hc.2, ih (fun x hx => h x (List.mem_cons_of_mem _ hx)), Option.map_map]; rfl
theorem readS_enc_all (l : List Int) (h : ∀ c ∈ l, 0 ≤ c ∧ c ≤ 255) : readS (encS l) = some l := by
  have := readS_enc l h []
  rw [List.append_nil, readS_nil] at this
  simpa using this
/-- the program's Encode -/
theorem bt_hex (d : Int) (h0 : 0 ≤ d) (h1 : d ≤ 15) : bt (⟨#[48, 49, 50, 51, 52, 53, 54, 55, 56, 57, 65, 66, 67, 68, 69, 70]⟩ : ByteArray) d = hex d := by
  obtain ⟨n, rfl⟩ := Int.eq_ofNat_of_zero_le h0
  have all : ∀ n : Nat, n < 16 → bt (⟨#[48, 49, 50, 51, 52, 53, 54, 55, 56, 57, 65, 66, 67, 68, 69, 70]⟩ : ByteArray) (n : Int) = hex (n : Int) := by decide +kernel
  exact all n (by omega)
theorem and15 (c : Int) (h0 : 0 ≤ c) (h1 : c ≤ 255) : Go.bits .and .u8 c 15 = c % 16 := by
  obtain ⟨n, rfl⟩ := Int.eq_ofNat_of_zero_le h0
  have all : ∀ n : Nat, n < 256 → Go.bits .and .u8 (n : Int) 15 = (n : Int) % 16 := by decide +kernel
  exact all n (by omega)
theorem enc_l0 (x : List Int) (hx : ∀ c ∈ x, 0 ≤ c ∧ c ≤ 255) (hl : x.length ≤ 100000) (d : Nat) : ∀ (i : Nat) (acc : List Int), x.length - i ≤ d → i ≤ x.length → acc.length ≤ 3 * i →
    Ev (fun k => qp_Encode.l0 k acc x (x.length : Int) (i : Int)) (acc ++ encS (x.drop i)) := by
  induction d with
  | zero =>
    intro i acc hd hi ha
    refine st (fun k => by rw [qp_Encode.l0]) ?_
    exact no (by omega) (fin (by rw [List.drop_eq_nil_of_le (by omega), encS_nil, List.append_nil]))
  | succ d ih =>
    intro i acc hd hi ha
    refine st (fun k => by rw [qp_Encode.l0]) ?_
    by_cases hlt : i < x.length
    · have hb := hx _ (rd_mem x i hlt)
      rw [drop_rd x i hlt, encS_cons]
      simp only [w64 (x := (i : Int) + 1) (by omega) (by omega), and15 _ hb.1 hb.2]
      refine yes (by omega) (yes (by omega) (yes (by omega) ?_))
      generalize rd x (i : Int) = c at *
      have h3 : ∀ y : List Int, y = encB c → Ev (fun k => qp_Encode.l0 k (acc ++ y) x (x.length : Int) ((i : Int) + 1)) (acc ++ (encB c ++ encS (x.drop (i + 1)))) := by
        intro y hy
        have := encB_len c
        rw [hy, ← List.append_assoc]
        exact ih (i + 1) (acc ++ encB c) (by omega) (by omega) (by rw [List.length_append]; omega)
      have hx3 : ¬ (33 ≤ c ∧ c ≤ 126 ∧ c ≠ 61) → Ev (fun k => if 0 ≤ (c / 16) then (if (c / 16) < 16 then (if 0 ≤ (c % 16) then (if (c % 16) < 16 then ((some (([61, bt (⟨#[48, 49, 50, 51, 52, 53, 54, 55, 56, 57, 65, 66, 67, 68, 69, 70]⟩ : ByteArray) (c / 16), bt (⟨#[48, 49, 50, 51, 52, 53, 54, 55, 56, 57, 65, 66, 67, 68, 69, 70]⟩ : ByteArray) (c % 16)] : List Int) : List Int)).bind fun y => (if acc.length + y.length < 140737488355328 then (qp_Encode.l0 k (acc ++ y) x (x.length : Int) ((i : Int) + 1)) else (none))) else (none)) else (none)) else (none)) else (none)) (acc ++ (encB c ++ encS (x.drop (i + 1)))) := by
        intro hn
        refine yes (by omega) (yes (by omega) (yes (by omega) (yes (by omega) (bs (yes (by simp; omega) ?_)))))
        exact h3 _ (by unfold encB; rw [if_neg hn, bt_hex _ (by omega) (by omega), bt_hex _ (by omega) (by omega)])
      by_cases a1 : c ≥ 33
      · refine yes a1 ?_
        by_cases a2 : c ≤ 126
        · refine yes a2 ?_
          by_cases a3 : c = 61
          · exact yes a3 (hx3 (fun h => h.2.2 a3))
          · exact no a3 (yes (by omega) (h3 [c] (by unfold encB; rw [if_pos ⟨a1, a2, a3⟩])))
        · exact no a2 (hx3 (fun h => a2 h.2.1))
      · exact no a1 (hx3 (fun h => a1 h.1))
    · exact no (by omega) (fin (by rw [List.drop_eq_nil_of_le (by omega), encS_nil, List.append_nil]))
theorem enc_eq (x : List Int) (hl : x.length ≤ 100000) (hx : ∀ c ∈ x, 0 ≤ c ∧ c ≤ 255) : Ev (fun k => qp_Encode.f k x) (encS x) := by
  have := enc_l0 x hx hl x.length 0 [] (by omega) (by omega) (by simp)
  exact this
/-- one line, up to its line feed -/
def uncr (l : List Int) : List Int := if l.getLast? = some 13 then l.dropLast else l
def crs (l : List Int) : List Int := if l.getLast? = some 13 then [13] else []
theorem uncr_snoc (m : List Int) (c : Int) : uncr (m ++ [c]) = if c = 13 then m else m ++ [c] := by unfold uncr; simp
theorem crs_snoc (m : List Int) (c : Int) : crs (m ++ [c]) = if c = 13 then [13] else [] := by unfold crs; simp
theorem idx_line (pre rest : List Int) (h : ∀ c ∈ pre, c ≠ 10) : idx (pre ++ 10 :: rest) 0 = pre.length := by
  unfold idx
  rw [List.drop_zero, List.takeWhile_append_of_pos (by simpa using h), List.takeWhile_cons]
  simp
theorem idx_last (pre : List Int) (h : ∀ c ∈ pre, c ≠ 10) : idx pre 0 = pre.length := by
  unfold idx
  have := List.takeWhile_append_of_pos (p := fun c : Int => decide (c ≠ 10)) (l₁ := pre) (l₂ := []) (by simpa using h)
  rw [List.append_nil] at this
  rw [List.drop_zero, this]; simp
theorem line_lf (pre rest : List Int) (h : ∀ c ∈ pre, c ≠ 10) : lineS (pre ++ 10 :: rest) = (trimR (uncr pre), crs pre ++ [10], rest) := by
  unfold lineS
  rw [idx_line pre rest h]
  have hn : nextP (pre ++ 10 :: rest) pre.length = pre.length + 1 := by unfold nextP; simp
  have hd : (pre ++ 10 :: rest).drop (pre.length + 1) = rest := by rw [List.drop_append]; simp
  have ht : (pre ++ 10 :: rest).take (pre.length + 1) = pre ++ [10] := by rw [List.take_append, List.take_of_length_le (by omega)]; simp
  rw [hn, hd, ht]
  rcases snoc_or pre with rfl | ⟨m, c, rfl⟩
  · have : toP ([] ++ 10 :: rest) ([] : List Int).length = 0 := by unfold toP; simp
    rw [this]; simp [uncr, crs]
  · have hr : rd (m ++ [c] ++ 10 :: rest) (((m ++ [c]).length - 1 : Nat) : Int) = c := by
      rw [rd_at _ _ (by simp)]; simp
    rw [uncr_snoc, crs_snoc]
    by_cases h13 : c = 13
    · have : toP (m ++ [c] ++ 10 :: rest) (m ++ [c]).length = m.length := by unfold toP; rw [if_pos ⟨by simp, by simp, by rw [hr]; exact h13⟩]; simp
      rw [this, if_pos h13, if_pos h13]; simp [h13]
    · have : toP (m ++ [c] ++ 10 :: rest) (m ++ [c]).length = (m ++ [c]).length := by unfold toP; rw [if_neg (fun z => h13 (by rw [hr] at z; exact z.2.2))]
      rw [this, if_neg h13, if_neg h13, List.take_left, List.drop_left]; simp
theorem line_no (pre : List Int) (h : ∀ c ∈ pre, c ≠ 10) : lineS pre = (trimR pre, [], []) := by
  unfold lineS
  rw [idx_last pre h]
  have h1 : nextP pre pre.length = pre.length := by unfold nextP; omega
  have h2 : toP pre pre.length = pre.length := by unfold toP; rw [if_neg (by omega)]
  rw [h1, h2]; simp
theorem decS_lf (pre rest : List Int) (h : ∀ c ∈ pre, c ≠ 10) : decS (pre ++ 10 :: rest) = (readS (soft (trimR (uncr pre)) (crs pre ++ [10])).1).bind fun p => (decS rest).map fun o => p ++ (soft (trimR (uncr pre)) (crs pre ++ [10])).2 ++ o := by
  rw [decS_cons _ (by simp), line_lf pre rest h]
theorem decS_no (pre : List Int) (h : ∀ c ∈ pre, c ≠ 10) : decS pre = (readS (soft (trimR pre) []).1).map fun p => p ++ (soft (trimR pre) []).2 := by
  by_cases h0 : pre = []
  · subst h0; rw [decS_nil, trimR_nil, soft_nil, readS_nil]; rfl
  · rw [decS_cons _ h0, line_no pre h]
    dsimp only
    rw [decS_nil]
    cases readS (soft (trimR pre) []).1 <;> simp
/-- a text that ends in no blank, no sign -/
theorem clean_end {l : List Int} (h : l = [] ∨ ∃ m z, l = m ++ [z] ∧ z ≠ 61 ∧ 33 ≤ z ∧ z ≤ 126) (e : List Int) : trimR l = l ∧ uncr l = l ∧ crs l = [] ∧ soft l e = (l, e) := by
  rcases h with rfl | ⟨m, z, rfl, h1, h2, h3⟩
  · exact ⟨rfl, rfl, rfl, rfl⟩
  · rw [trimR_snoc, uncr_snoc, crs_snoc, soft_snoc, if_neg (by omega), if_neg (by omega), if_neg (by omega), if_neg h1]
    exact ⟨rfl, rfl, rfl, rfl⟩
end Go.Proofs.Ytcnbkblnchechaa.Qp
