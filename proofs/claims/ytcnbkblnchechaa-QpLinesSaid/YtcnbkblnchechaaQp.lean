/- Quoted-printable as plain functions on lists of bytes; the program's reading of a line's text, and the reference's, are these. -/
import Derived.Test.YtcnbkblnchechaaEvs
import Derived.Test.YtcnbkblnchechaaPx2
import Derived.Test.YtcnbkblnchechaaPx5
set_option linter.unusedVariables false
set_option linter.unusedSimpArgs false
namespace Go.Proofs.Ytcnbkblnchechaa.Qp
open Go.RowKit Go.Proofs.Ytcnbkblnchechaa.P Go.Proofs.YtcnbkblnchechaaW.PrintWords Go.Proofs.YtcnbkblnchechaaW.PrintLast Go.Proofs.Ytcnbkblnchechaa.Aids

/-- a digit's value -/
def V (c : Int) : Option Int := if 48 ≤ c ∧ c ≤ 57 then some (c - 48) else if 65 ≤ c ∧ c ≤ 70 then some (c - 55) else if 97 ≤ c ∧ c ≤ 102 then some (c - 87) else none
theorem V_range {c v : Int} (h : V c = some v) : 0 ≤ v ∧ v ≤ 15 := by
  unfold V at h
  split at h
  · injection h; omega
  · split at h
    · injection h; omega
    · split at h
      · injection h; omega
      · cases h
theorem digit_eq (c : Int) (h0 : 0 ≤ c) (h1 : c ≤ 255) : Ev (fun k => qp_digit.f k c) ((V c).getD 0, (V c).isSome) := by
  obtain ⟨n, rfl⟩ := Int.eq_ofNat_of_zero_le h0
  have all : ∀ n : Nat, n < 256 → qp_digit.f 3 (n : Int) = some ((V (n : Int)).getD 0, (V (n : Int)).isSome) := by decide +kernel
  exact evk (fun k => qp_digit.mono _ k) 3 (all n (by omega))
theorem value_eq (c : Int) (h0 : 0 ≤ c) (h1 : c ≤ 255) : Ev (fun k => letterboxref03_value.f k c) ((V c).getD 16) := by
  obtain ⟨n, rfl⟩ := Int.eq_ofNat_of_zero_le h0
  have all : ∀ n : Nat, n < 256 → letterboxref03_value.f 18 (n : Int) = some ((V (n : Int)).getD 16) := by decide +kernel
  exact evk (fun k => letterboxref03_value.mono _ k) 18 (all n (by omega))
def plain (c : Int) : Prop := c = 32 ∨ c = 9 ∨ (33 ≤ c ∧ c ≤ 126)
instance (c : Int) : Decidable (plain c) := inferInstanceAs (Decidable (_ ∨ _ ∨ (_ ∧ _)))
/-- a line's text, read -/
def readS (l : List Int) : Option (List Int) :=
  match l with
  | [] => some []
  | c :: t =>
    if c = 61 then
      match t with
      | a :: b :: u => (V a).bind fun x => (V b).bind fun y => (readS u).map fun o => (16 * x + y) :: o
      | _ => none
    else if plain c then (readS t).map fun o => c :: o else none
termination_by l.length
theorem readS_nil : readS [] = some [] := by rw [readS.eq_def]
theorem readS_hex (a b : Int) (u : List Int) : readS (61 :: a :: b :: u) = (V a).bind fun x => (V b).bind fun y => (readS u).map fun o => (16 * x + y) :: o := by
  rw [readS.eq_def]; simp
theorem readS_short (l : List Int) (h : l.length ≤ 1) : readS (61 :: l) = none := by
  rcases l with _ | ⟨a, _ | ⟨b, u⟩⟩
  · rw [readS.eq_def]; simp
  · rw [readS.eq_def]; simp
  · simp at h
theorem readS_plain {c : Int} (t : List Int) (h : c ≠ 61) (hp : plain c) : readS (c :: t) = (readS t).map fun o => c :: o := by
  rw [readS.eq_def]; simp [h, hp]
theorem readS_bad {c : Int} (t : List Int) (h : c ≠ 61) (hp : ¬ plain c) : readS (c :: t) = none := by
  rw [readS.eq_def]; simp [h, hp]
def told (acc : List Int) : Option (List Int) → List Int × Bool
  | some o => (acc ++ o, true)
  | none => ([], false)
theorem told_cons (acc : List Int) (c : Int) (o : Option (List Int)) : told acc (o.map fun o => c :: o) = told (acc ++ [c]) o := by
  cases o <;> simp [told]
theorem or_eq (x y : Int) (hx : 0 ≤ x ∧ x ≤ 15) (hy : 0 ≤ y ∧ y ≤ 15) : Go.bits .or .u8 ((x * 16) % 256) y = 16 * x + y := by
  obtain ⟨a, rfl⟩ := Int.eq_ofNat_of_zero_le hx.1
  obtain ⟨b, rfl⟩ := Int.eq_ofNat_of_zero_le hy.1
  have all : ∀ a : Nat, a < 16 → ∀ b : Nat, b < 16 → Go.bits .or .u8 (((a : Int) * 16) % 256) (b : Int) = 16 * (a : Int) + (b : Int) := by decide +kernel
  exact all a (by omega) b (by omega)
theorem read_l0 (x : List Int) (hx : ∀ c ∈ x, 0 ≤ c ∧ c ≤ 255) (hl : x.length ≤ 100000) (d : Nat) : ∀ (i : Nat) (acc : List Int), x.length - i ≤ d → acc.length ≤ 100000 + i →
    Ev (fun k => qp_read.l0 k x acc (i : Int)) (told acc (readS (x.drop i))) := by
  induction d with
  | zero =>
    intro i acc hd ha
    refine st (fun k => by rw [qp_read.l0]) (no (by omega) (fin ?_))
    rw [List.drop_eq_nil_of_le (by omega), readS_nil]; simp [told]
  | succ d ih =>
    intro i acc hd ha
    refine st (fun k => by rw [qp_read.l0]) ?_
    by_cases hi : i < x.length
    · refine yes (by omega) (yes (by omega) ?_)
      have hb := hx _ (rd_mem x i hi)
      rw [drop_rd x i hi]
      by_cases h61 : rd x (i : Int) = 61
      · refine yes h61 ?_
        rw [h61]
        simp only [w64 (x := (i : Int) + 2) (by omega) (by omega), w64 (x := (i : Int) + 1) (by omega) (by omega)]
        by_cases h2 : i + 2 < x.length
        · refine no (by omega) (yes (by omega) (yes (by omega) ?_))
          have hb1 := hx _ (rd_mem x (i + 1) (by omega))
          have hb2 := hx _ (rd_mem x (i + 2) h2)
          rw [drop_rd x (i + 1) (by omega), drop_rd x (i + 2) h2, readS_hex]
          refine bnd (digit_eq _ (by exact hb1.1) (by exact hb1.2)) (yes (by omega) (yes (by omega) (bnd (digit_eq _ (by exact hb2.1) (by exact hb2.2)) ?_)))
          rw [show ((i : Int) + 1) = ((i + 1 : Nat) : Int) from rfl, show ((i : Int) + 2) = ((i + 2 : Nat) : Int) from rfl]
          cases h3 : V (rd x ((i + 1 : Nat) : Int)) with
          | none => exact no (by simp) (fin (by simp [told]))
          | some a =>
            refine yes (by simp) ?_
            cases h4 : V (rd x ((i + 2 : Nat) : Int)) with
            | none => exact no (by simp) (fin (by simp [told]))
            | some b =>
              refine yes (by simp) (yes (by omega) ?_)
              simp only [Option.getD_some, or_eq a b (V_range h3) (V_range h4), Option.bind_some, told_cons]
              rw [w64 (by omega) (by omega), show (((i + 2 : Nat) : Int) + 1) = ((i + 3 : Nat) : Int) from rfl]
              exact ih (i + 3) _ (by omega) (by simp; omega)
        · refine yes (by omega) (fin ?_)
          rw [readS_short _ (by simp; omega)]; rfl
      · refine no h61 ?_
        simp only [w64 (x := (i : Int) + 1) (by omega) (by omega)]
        have go : Ev (fun k => qp_read.l0 k x (acc ++ [rd x (i : Int)]) ((i : Int) + 1)) (told (acc ++ [rd x (i : Int)]) (readS (x.drop (i + 1)))) := ih (i + 1) _ (by omega) (by simp; omega)
        have hlen : acc.length < 140737488355328 := by omega
        by_cases h32 : rd x (i : Int) = 32
        · rw [readS_plain _ h61 (Or.inl h32), told_cons]
          exact yes h32 (yes hlen go)
        · by_cases h9 : rd x (i : Int) = 9
          · rw [readS_plain _ h61 (Or.inr (Or.inl h9)), told_cons]
            exact no h32 (yes h9 (yes hlen go))
          · by_cases hp : 33 ≤ rd x (i : Int) ∧ rd x (i : Int) ≤ 126
            · rw [readS_plain _ h61 (Or.inr (Or.inr hp)), told_cons]
              exact no h32 (no h9 (yes hp.1 (yes hp.2 (yes hlen go))))
            · rw [readS_bad _ h61 (by rintro (h | h | h); exact h32 h; exact h9 h; exact hp h)]
              refine no h32 (no h9 ?_)
              by_cases h33 : rd x (i : Int) ≥ 33
              · exact yes h33 (no (fun h => hp ⟨h33, h⟩) (fin rfl))
              · exact no h33 (fin rfl)
    · refine no (by omega) (fin ?_)
      rw [List.drop_eq_nil_of_le (by omega), readS_nil]; simp [told]
theorem read_eq (x : List Int) (hx : ∀ c ∈ x, 0 ≤ c ∧ c ≤ 255) (hl : x.length ≤ 100000) : Ev (fun k => qp_read.f k x) (told [] (readS x)) := by
  have := read_l0 x hx hl x.length 0 [] (by omega) (by simp)
  exact this
def toldS (acc : List Int) : Option (List Int) → ByteArray × Bool
  | some o => (strOfNums (acc ++ o), true)
  | none => (⟨#[]⟩, false)
theorem toldS_cons (acc : List Int) (c : Int) (o : Option (List Int)) : toldS acc (o.map fun o => c :: o) = toldS (acc ++ [c]) o := by
  cases o <;> simp [toldS]
theorem text_l0 (s : ByteArray) (hl : s.size ≤ 100000) (d : Nat) : ∀ (i : Nat) (acc : List Int), s.size - i ≤ d → acc.length ≤ 100000 + i →
    Ev (fun k => letterboxref03_text.l0 k s acc (i : Int)) (toldS acc (readS ((bytesOf s).drop i))) := by
  have hsz := size_bytes s
  induction d with
  | zero =>
    intro i acc hd ha
    refine st (fun k => by rw [letterboxref03_text.l0]) (no (by omega) (fin ?_))
    rw [List.drop_eq_nil_of_le (by omega), readS_nil]; simp [toldS]
  | succ d ih =>
    intro i acc hd ha
    refine st (fun k => by rw [letterboxref03_text.l0]) ?_
    simp only [bt_bytes]
    by_cases hi : i < s.size
    · refine yes (by omega) (yes (by omega) ?_)
      have hb := byte_of _ (rd_mem (bytesOf s) i (by omega))
      rw [drop_rd (bytesOf s) i (by omega)]
      by_cases h61 : rd (bytesOf s) (i : Int) = 61
      · refine yes h61 ?_
        rw [h61]
        simp only [w64 (x := (i : Int) + 2) (by omega) (by omega), w64 (x := (i : Int) + 1) (by omega) (by omega)]
        by_cases h2 : i + 2 < s.size
        · refine no (by omega) (yes (by omega) (yes (by omega) ?_))
          have hb1 := byte_of _ (rd_mem (bytesOf s) (i + 1) (by omega))
          have hb2 := byte_of _ (rd_mem (bytesOf s) (i + 2) (by omega))
          rw [drop_rd (bytesOf s) (i + 1) (by omega), drop_rd (bytesOf s) (i + 2) (by omega), readS_hex]
          refine bnd (value_eq _ (by exact hb1.1) (by exact hb1.2)) (yes (by omega) (yes (by omega) (bnd (value_eq _ (by exact hb2.1) (by exact hb2.2)) ?_)))
          rw [show ((i : Int) + 1) = ((i + 1 : Nat) : Int) from rfl, show ((i : Int) + 2) = ((i + 2 : Nat) : Int) from rfl]
          have jt : ∀ a b, Ev (fun k => letterboxref03_text.j1 k s acc (i : Int) a b true) ((⟨#[]⟩, false) : ByteArray × Bool) := fun a b => st (fun k => by rw [letterboxref03_text.j1]) (yes rfl (fin rfl))
          cases h3 : V (rd (bytesOf s) ((i + 1 : Nat) : Int)) with
          | none => exact yes (by simp) (toE (jt _ _) (by simp [toldS]))
          | some a =>
            have ra := V_range h3
            refine no (by simp; omega) ?_
            cases h4 : V (rd (bytesOf s) ((i + 2 : Nat) : Int)) with
            | none =>
              simp only [Option.getD_none, show decide ((16 : Int) > 15) = true from rfl]
              exact toE (jt _ _) (by simp [toldS])
            | some b =>
              have rb := V_range h4
              simp only [Option.getD_some, show decide (b > 15) = false from decide_eq_false (by omega), Option.bind_some, toldS_cons]
              refine st (fun k => by rw [letterboxref03_text.j1]) (no (by simp) (yes (by omega) ?_))
              rw [w64 (x := 16 * a) (by omega) (by omega), w64 (x := 16 * a + b) (by omega) (by omega), show (16 * a + b) % 256 = 16 * a + b by omega, w64 (x := (i : Int) + 3) (by omega) (by omega), show ((i : Int) + 3) = ((i + 3 : Nat) : Int) from rfl]
              exact ih (i + 3) _ (by omega) (by simp; omega)
        · refine yes (by omega) (fin ?_)
          rw [readS_short _ (by simp; omega)]; rfl
      · refine no h61 ?_
        simp only [w64 (x := (i : Int) + 1) (by omega) (by omega)]
        have go : Ev (fun k => letterboxref03_text.l0 k s (acc ++ [rd (bytesOf s) (i : Int)]) ((i : Int) + 1)) (toldS (acc ++ [rd (bytesOf s) (i : Int)]) (readS ((bytesOf s).drop (i + 1)))) := ih (i + 1) _ (by omega) (by simp; omega)
        have hlen : acc.length < 140737488355328 := by omega
        by_cases h32 : rd (bytesOf s) (i : Int) = 32
        · rw [readS_plain _ h61 (Or.inl h32), toldS_cons]
          exact yes h32 (yes hlen go)
        · by_cases h9 : rd (bytesOf s) (i : Int) = 9
          · rw [readS_plain _ h61 (Or.inr (Or.inl h9)), toldS_cons]
            exact no h32 (yes h9 (yes hlen go))
          · refine no h32 (no h9 ?_)
            by_cases h33 : rd (bytesOf s) (i : Int) < 33
            · rw [readS_bad _ h61 (by rintro (h | h | h); exact h32 h; exact h9 h; omega)]
              exact yes h33 (fin rfl)
            · by_cases h126 : rd (bytesOf s) (i : Int) > 126
              · rw [readS_bad _ h61 (by rintro (h | h | h); exact h32 h; exact h9 h; omega)]
                exact no h33 (yes h126 (fin rfl))
              · rw [readS_plain _ h61 (Or.inr (Or.inr ⟨by omega, by omega⟩)), toldS_cons]
                exact no h33 (no h126 (yes hlen go))
    · refine no (by omega) (fin ?_)
      rw [List.drop_eq_nil_of_le (by omega), readS_nil]; simp [toldS]
theorem text_eq (s : ByteArray) (hl : s.size ≤ 100000) : Ev (fun k => letterboxref03_text.f k s) (toldS [] (readS (bytesOf s))) := by
  have := text_l0 s hl s.size 0 [] (by omega) (by simp)
  exact this
end Go.Proofs.Ytcnbkblnchechaa.Qp
