-- Cut by a program of this session (wip/tools/prunew.py): what this claim does not need is left out.
import Derived.Test.YtmbiggcapakjjaaDoorSplA
import Derived.Lib.IndexLaws
import Derived.Lib.SplitLaws
import Derived.Lib.CountLaws
import Derived.Test.YtmbiggcapakjjaaDoorPx8
import Derived.Test.YtmbiggcapakjjaaDoorPx7
set_option linter.unusedVariables false
set_option linter.unusedSimpArgs false
namespace Go.Proofs.YtmbiggcapakjjaaDoor.Txt
open Go.RowKit Go.Proofs.YtmbiggcapakjjaaDoor.P Go.Proofs.YtmbiggcapakjjaaDoorW.PrintWords Go.Proofs.YtmbiggcapakjjaaDoorW.PrintLast Go.Proofs.YtmbiggcapakjjaaDoor.Aids Go.Proofs.YtmbiggcapakjjaaDoor.Chars
def tw (n : Nat) : List Int := [48 + ((n / 10 : Nat) : Int), 48 + ((n % 10 : Nat) : Int)]
def dg (c : Int) : Bool := decide (48 ≤ c) && decide (c ≤ 57)
def dv : List Int → Int → Int
  | [], n => n
  | c :: t, n => dv t (10 * n + (c - 48))
theorem dg_is (c : Int) : dg c = true ↔ 48 ≤ c ∧ c ≤ 57 := by
  unfold dg
  rw [Bool.and_eq_true, decide_eq_true_eq, decide_eq_true_eq]
theorem dig_l1 (s : ByteArray) (many : List Int) (n : Int) : ∀ (c i : Nat), many.length - i ≤ c → i ≤ many.length → many.length ≤ 10 → Ev (fun k => date_digits.l1 k s n many (many.length : Int) (i : Int)) (if (s.size : Int) ∈ many.drop i then n else -1) := by
  intro c
  induction c with
  | zero =>
    intro i h1 h2 h3
    rw [List.drop_eq_nil_of_le (by omega), if_neg (by simp)]
    refine st (fun k => by rw [date_digits.l1]) ?_
    exact no (by omega) (fin rfl)
  | succ c ih =>
    intro i h1 h2 h3
    rcases Nat.lt_or_ge i many.length with h | h
    · refine st (fun k => by rw [date_digits.l1]) ?_
      refine yes (by omega) (yes (by omega) (yes (by omega) ?_))
      rw [drop_rd many i h]
      by_cases hs : (s.size : Int) = rd many (i : Int)
      · rw [if_pos (by rw [hs]; exact List.mem_cons_self)]
        exact yes hs (fin rfl)
      · refine no hs ?_
        have e1 : wrap64 ((i : Int) + 1) = ((i + 1 : Nat) : Int) := by rw [w64 (by omega) (by omega)]; omega
        rw [e1]
        refine toE (ih (i + 1) (by omega) h h3) ?_
        simp only [List.mem_cons, hs, false_or]
    · rw [List.drop_eq_nil_of_le h, if_neg (by simp)]
      refine st (fun k => by rw [date_digits.l1]) ?_
      exact no (by omega) (fin rfl)
theorem dig_l0 {l : List Int} (hb : byte l) (hl : l.length ≤ 1000) (many : List Int) (hm : many.length ≤ 10) (h4 : ∀ x ∈ many, x ≤ 4) : ∀ (c i : Nat) (n : Int), l.length - i ≤ c → i ≤ l.length → (l.length ≤ 4 → 0 ≤ n ∧ n < 10 ^ i) →
    Ev (fun k => date_digits.l0 k (strOfNums l) many n (l.length : Int) (i : Int)) (if (l.drop i).all dg = true ∧ (l.length : Int) ∈ many then dv (l.drop i) n else -1) := by
  have hend : ∀ n : Int, Ev (fun k => date_digits.l0 k (strOfNums l) many n (l.length : Int) (l.length : Int)) (if (l.drop l.length).all dg = true ∧ (l.length : Int) ∈ many then dv (l.drop l.length) n else -1) := by
    intro n
    refine st (fun k => by rw [date_digits.l0]) ?_
    refine no (by omega) ?_
    refine toE (dig_l1 (strOfNums l) many n many.length 0 (by omega) (by omega) hm) ?_
    rw [List.drop_length, List.drop_zero, strOfNums_size]
    simp [dv]
  intro c
  induction c with
  | zero =>
    intro i n h1 h2 h3
    have : i = l.length := by omega
    subst this
    exact hend n
  | succ c ih =>
    intro i n h1 h2 h3
    rcases Nat.lt_or_ge i l.length with h | h
    · have hbi := hb _ (rd_mem l i h)
      rw [drop_rd l i h, List.all_cons]
      generalize hx : rd l (i : Int) = x at *
      refine st (fun k => by rw [date_digits.l0]) ?_
      refine yes (by omega) (yes (by omega) (yes (by rw [strOfNums_size]; omega) ?_))
      rw [str_bt _ hb, hx]
      by_cases c1 : x < 48
      · have : dg x = false := by unfold dg; rw [decide_eq_false (by omega), Bool.false_and]
        rw [this, Bool.false_and, if_neg (by simp)]
        exact yes c1 (fin rfl)
      · refine no c1 ?_
        by_cases c2 : x > 57
        · have : dg x = false := by unfold dg; rw [decide_eq_false (p := x ≤ 57) (by omega), Bool.and_false]
          rw [this, Bool.false_and, if_neg (by simp)]
          exact yes c2 (fin rfl)
        · refine no c2 ?_
          have hd : dg x = true := (dg_is x).2 ⟨by omega, by omega⟩
          rw [hd, Bool.true_and]
          have e1 : wrap64 ((i : Int) + 1) = ((i + 1 : Nat) : Int) := by rw [w64 (by omega) (by omega)]; omega
          rw [e1]
          by_cases hl4 : l.length ≤ 4
          · obtain ⟨n0, n1⟩ := h3 hl4
            have hi : i = 0 ∨ i = 1 ∨ i = 2 ∨ i = 3 := by omega
            have hn1 : n ≤ 1000 := by rcases hi with rfl | rfl | rfl | rfl <;> omega
            have e2 : wrap64 (wrap64 (10 * n) + (x - 48) % 256) = 10 * n + (x - 48) := by
              rw [Int.emod_eq_of_lt (by omega) (by omega), w64 (x := 10 * n) (by omega) (by omega), w64 (by omega) (by omega)]
            rw [e2]
            refine ih (i + 1) _ (by omega) h (fun _ => ⟨by omega, ?_⟩)
            have : (10 : Int) ^ (i + 1) = 10 * 10 ^ i := by rw [Int.pow_succ]; omega
            rw [this]
            omega
          · have hnm : ¬ (l.length : Int) ∈ many := fun hmm => hl4 (by have := h4 _ hmm; omega)
            refine toE (ih (i + 1) _ (by omega) h (fun e => absurd e hl4)) ?_
            rw [if_neg (fun e => hnm e.2), if_neg (fun e => hnm e.2)]
    · have : i = l.length := by omega
      subst this
      exact hend n
theorem digits_ok {l : List Int} (hb : byte l) (hl : l.length ≤ 1000) (many : List Int) (hm : many.length ≤ 10) (h4 : ∀ x ∈ many, x ≤ 4) : Ev (fun k => date_digits.f k (strOfNums l) many) (if l.all dg = true ∧ (l.length : Int) ∈ many then dv l 0 else -1) := by
  unfold date_digits.f
  rw [strOfNums_size]
  exact dig_l0 hb hl many hm h4 l.length 0 0 (by omega) (by omega) (fun _ => ⟨by decide, by decide⟩)
def moL (m : Nat) : List Int := bytesOf (mo_word (m : Int))
theorem mo_all : ∀ m : Fin 12, mo_word ((m.val : Nat) : Int) = strOfNums (moL m.val) ∧ (moL m.val).length = 3 ∧ (∀ c ∈ moL m.val, 65 ≤ c ∧ c ≤ 122) ∧ date_month.f (strOfNums (moL m.val)) = some (m.val : Int) := by decide +kernel
theorem mo_is (m : Nat) (h : m < 12) : mo_word (m : Int) = strOfNums (moL m) ∧ (moL m).length = 3 ∧ (∀ c ∈ moL m, 65 ≤ c ∧ c ≤ 122) ∧ date_month.f (strOfNums (moL m)) = some (m : Int) := mo_all ⟨m, h⟩
theorem mo_byte (m : Nat) (h : m < 12) : byte (moL m) := fun c hc => by have := (mo_is m h).2.2.1 c hc; omega
theorem occ1 (c : UInt8) (s : List UInt8) (i : Nat) : Lib.occAt s [c] i = (s[i]? == some c) := by
  unfold Lib.occAt
  cases h : s.drop i with
  | nil =>
    have : s[i]? = none := List.getElem?_eq_none (List.drop_eq_nil_iff.1 h)
    rw [this]
    rfl
  | cons a t =>
    have : s[i]? = some a := by
      have h2 : (s.drop i)[0]? = some a := by rw [h]; rfl
      rw [List.getElem?_drop] at h2
      simpa using h2
    rw [this]
    show (c == a && List.isPrefixOf [] t) = _
    rw [List.isPrefixOf_nil_left, Bool.and_true, Bool.eq_iff_iff, beq_iff_eq, beq_iff_eq, Option.some.injEq]
    exact eq_comm
def u8 (c : Int) : UInt8 := c.toNat.toUInt8
theorem u8_ne {c : Int} (h : 0 ≤ c ∧ c ≤ 255) (hc : c ≠ 45) : u8 c ≠ (45 : UInt8) := by
  intro e
  have e3 := congrArg UInt8.toNat e
  unfold u8 at e3
  simp at e3
  omega
theorem ix_none {l : List Int} (hb : byte l) (h : ∀ c ∈ l, c ≠ 45) : Lib.indexB (strOfNums l) (strOfNums [45]) = -1 := by
  show Lib.index (strOfNums l).data.toList (strOfNums [45]).data.toList = -1
  rw [show (strOfNums [45]).data.toList = [(45 : UInt8)] from rfl]
  refine Lib.index_past (i := (strOfNums l).data.toList.length) (by simp) ?_ (by simp)
  intro j hj
  rw [occ1, beq_eq_false_iff_ne]
  rw [strOfNums_data] at hj ⊢
  rw [List.getElem?_map]
  rw [List.length_map] at hj
  rw [List.getElem?_eq_getElem hj]
  intro e
  have e2 : u8 l[j] = (45 : UInt8) := Option.some.inj e
  exact u8_ne (hb _ (List.getElem_mem hj)) (h _ (List.getElem_mem hj)) e2
theorem ix_some {a r : List Int} (hb : byte a) (h : ∀ c ∈ a, c ≠ 45) : Lib.indexB (strOfNums (a ++ 45 :: r)) (strOfNums [45]) = (a.length : Int) := by
  show Lib.index (strOfNums (a ++ 45 :: r)).data.toList (strOfNums [45]).data.toList = _
  rw [show (strOfNums [45]).data.toList = [(45 : UInt8)] from rfl]
  refine Lib.index_first ?_ ?_ ?_
  · rw [strOfNums_data, List.length_map, List.length_append]; omega
  · rw [occ1, strOfNums_data, List.getElem?_map]
    simp
  · intro j hj
    rw [occ1, beq_eq_false_iff_ne, strOfNums_data, List.getElem?_map, List.getElem?_append_left hj, List.getElem?_eq_getElem hj]
    intro e
    have e2 : u8 a[j] = (45 : UInt8) := Option.some.inj e
    exact u8_ne (hb _ (List.getElem_mem hj)) (h _ (List.getElem_mem hj)) e2
theorem first45 : ∀ l : List Int, (∀ c ∈ l, c ≠ 45) ∨ ∃ a r, l = a ++ 45 :: r ∧ ∀ c ∈ a, c ≠ 45
  | [] => .inl (fun c hc => by cases hc)
  | x :: t => by
    by_cases hx : x = 45
    · exact .inr ⟨[], t, by rw [hx]; rfl, fun c hc => by cases hc⟩
    · rcases first45 t with h | ⟨a, r, h1, h2⟩
      · left
        intro c hc
        rcases List.mem_cons.1 hc with rfl | hc
        · exact hx
        · exact h c hc
      · right
        refine ⟨x :: a, r, by rw [h1]; rfl, ?_⟩
        intro c hc
        rcases List.mem_cons.1 hc with rfl | hc
        · exact hx
        · exact h2 c hc
theorem splitL_no (z : Int) : ∀ (l cur : List Int), (∀ c ∈ l, c ≠ z) → splitL z l cur = [cur ++ l]
  | [], cur, _ => by simp [splitL]
  | c :: t, cur, h => by
    rw [splitL, if_neg (h c List.mem_cons_self), splitL_no z t _ (fun x hx => h x (List.mem_cons_of_mem _ hx))]
    simp
theorem splitL_at (z : Int) (r : List Int) : ∀ (a cur : List Int), (∀ c ∈ a, c ≠ z) → splitL z (a ++ z :: r) cur = (cur ++ a) :: splitL z r []
  | [], cur, _ => by simp [splitL]
  | c :: t, cur, h => by
    rw [List.cons_append, splitL, if_neg (h c List.mem_cons_self), splitL_at z r t _ (fun x hx => h x (List.mem_cons_of_mem _ hx))]
    simp
theorem splitB_is : ∀ (d : Nat) (l : List Int), l.length ≤ d → byte l → Lib.splitB (strOfNums [45]) 0 (Lib.countB (strOfNums l) (strOfNums [45])) (strOfNums l) = Chars.strs (splitL 45 l []) := by
  intro d
  induction d with
  | zero =>
    intro l hl hb
    have : l = [] := List.length_eq_zero_iff.1 (by omega)
    subst this
    rw [Lib.splitB_miss _ _ _ _ (ix_none hb (fun c hc => by cases hc))]
    rfl
  | succ d ih =>
    intro l hl hb
    rcases first45 l with h | ⟨a, r, rfl, h⟩
    · rw [Lib.splitB_miss _ _ _ _ (ix_none hb h), splitL_no 45 l [] h]
      rfl
    · have hba := byte_left hb
      have hbr : byte r := fun x hx => hb x (List.mem_append_right _ (List.mem_cons_of_mem _ hx))
      have hi := ix_some (r := r) hba h
      have hlr : r.length ≤ d := by simp at hl; omega
      have hext : (strOfNums (a ++ 45 :: r)).extract (a.length + (strOfNums [45]).size) (strOfNums (a ++ 45 :: r)).size = strOfNums r := by
        rw [strOfNums_size, strOfNums_size, str_extract, List.take_of_length_le (Nat.le_refl _)]
        congr 1
        rw [show a ++ 45 :: r = (a ++ [45]) ++ r by simp]
        exact List.drop_left' (by simp)
      rw [Lib.countB_hit _ _ _ (by rw [strOfNums_size]; decide) hi, hext, Nat.add_comm, Lib.splitB_hit _ _ _ _ _ hi, hext, ih r hlr hbr, splitL_at 45 r a [] h]
      show _ :: _ = strOfNums ([] ++ a) :: Chars.strs (splitL 45 r [])
      congr 1
      rw [str_extract, Nat.add_zero, List.drop_zero, List.take_left']
      · rfl
      · rfl
theorem ssplit_f (l : List Int) (hb : byte l) (hl : l.length ≤ 1000000) : strings_Split.f (strOfNums l) (⟨#[45]⟩ : ByteArray) = some (Chars.strs (splitL 45 l [])) := by
  unfold strings_Split.f
  rw [if_pos ⟨by rw [strOfNums_size]; omega, by decide⟩, ← splitB_is l.length l (Nat.le_refl _) hb]
  rfl
end Go.Proofs.YtmbiggcapakjjaaDoor.Txt
