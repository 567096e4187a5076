/- Texts as strings and atoms: both printed ways tell the same. -/
import Derived.Test.YtmdhggiffdkmfaaDigits
import Derived.Test.YtmdhggiffdkmfaaPx9
import Derived.Test.YtmdhggiffdkmfaaPx8
set_option linter.unusedVariables false
set_option linter.unusedSimpArgs false
set_option linter.unusedSectionVars false
namespace Go.Proofs.Ytmdhggiffdkmfaa.Chars
open Go.RowKit Go.Proofs.Ytmdhggiffdkmfaa.P Go.Proofs.YtmdhggiffdkmfaaW.PrintWords Go.Proofs.YtmdhggiffdkmfaaW.PrintLast Go.Proofs.YtmdhggiffdkmfaaW.PrintMore Go.Proofs.Ytmdhggiffdkmfaa.Aids
def pr (c : Int) : Bool := decide (32 ≤ c ∧ c < 127)
def atm (c : Int) : Bool := wr_is 29 c
def esc (c : Int) : List Int := if c = 34 ∨ c = 92 then [92, c] else [c]
def escs : List Int → List Int
  | [] => []
  | c :: t => esc c ++ escs t
/-- a text between quotes; as a literal; as a string; as an atom or a string -/
def qt (l : List Int) : List Int := 34 :: (escs l ++ [34])
def lit (l : List Int) : List Int := (if (0 : Int) ∈ l then [126] else []) ++ (123 :: (digits l.length ++ (125 :: 13 :: 10 :: l)))
def str (l : List Int) : List Int := if l.length ≤ 1000 ∧ l.all pr = true then qt l else lit l
def ast (l : List Int) : List Int := if l ≠ [] ∧ l.all atm = true ∧ (91 : Int) ∉ l then l else str l
theorem atm_all : ∀ c : Fin 256, wr_is 29 ((c.val : Nat) : Int) = decide (33 ≤ c.val ∧ c.val ≤ 126 ∧ c.val ≠ 40 ∧ c.val ≠ 41 ∧ c.val ≠ 123 ∧ c.val ≠ 37 ∧ c.val ≠ 42 ∧ c.val ≠ 34 ∧ c.val ≠ 92 ∧ c.val ≠ 93) := by decide +kernel
theorem atm_iff {c : Int} (h0 : 0 ≤ c) (h1 : c ≤ 255) : atm c = true ↔ 33 ≤ c ∧ c ≤ 126 ∧ c ≠ 40 ∧ c ≠ 41 ∧ c ≠ 123 ∧ c ≠ 37 ∧ c ≠ 42 ∧ c ≠ 34 ∧ c ≠ 92 ∧ c ≠ 93 := by
  have h := atm_all ⟨c.toNat, by omega⟩
  have e : ((c.toNat : Nat) : Int) = c := by omega
  rw [e] at h
  unfold atm
  rw [h, decide_eq_true_iff]
  simp only
  omega
theorem ratm_all : ∀ c : Fin 256, letterboxref01_Atom.f 20 ((c.val : Nat) : Int) = some (wr_is 29 ((c.val : Nat) : Int)) := by decide +kernel
theorem ratom {c : Int} (h0 : 0 ≤ c) (h1 : c ≤ 255) : Ev (fun k => letterboxref01_Atom.f k c) (atm c) := by
  have h := ratm_all ⟨c.toNat, by omega⟩
  have e : ((c.toNat : Nat) : Int) = c := by omega
  rw [e] at h
  exact evk (fun k => letterboxref01_Atom.mono c k) 20 h
theorem all_is (n : Nat) (p : Int → Bool) (l : List Int) (h : ∀ c ∈ l, wr_is n c = p c) : l.all (wr_is n) = l.all p := by
  induction l with
  | nil => rfl
  | cons c t ih => rw [List.all_cons, List.all_cons, h c List.mem_cons_self, ih (fun x hx => h x (List.mem_cons_of_mem _ hx))]
theorem wr_pr (c : Int) : wr_is 21 c = pr c := if_pos rfl
theorem all_pr (l : List Int) (hb : byte l) (hl : l.length ≤ 100000000) : wire_all.f (strOfNums l) 21 = some (l.all pr) := by
  unfold wire_all.f
  rw [if_pos ⟨.inl rfl, by rw [strOfNums_size]; omega⟩, bytes_str l hb, all_is 21 pr l (fun c _ => wr_pr c)]
theorem all_atm (l : List Int) (hb : byte l) (hl : l.length ≤ 100000000) : wire_all.f (strOfNums l) 29 = some (l.all atm) := by
  unfold wire_all.f
  rw [if_pos ⟨.inr rfl, by rw [strOfNums_size]; omega⟩, bytes_str l hb]; rfl
theorem one_at (l : List Int) (i : Nat) (h : i < l.length) : (l.take (i + 1)).drop i = [rd l (i : Int)] := by
  rw [rd_at l i h, List.drop_take, Nat.add_sub_cancel_left, List.drop_eq_getElem_cons h]; rfl
/-- where a byte first stands -/
def ix (c : Int) : List Int → Nat
  | [] => 0
  | x :: t => if x = c then 0 else ix c t + 1
theorem ix_le (c : Int) : ∀ l, ix c l ≤ l.length
  | [] => Nat.le_refl _
  | x :: t => by
    have := ix_le c t
    unfold ix; split <;> simp; omega
theorem ix_mem (c : Int) : ∀ l, ix c l < l.length ↔ c ∈ l
  | [] => by simp [ix]
  | x :: t => by
    have := ix_mem c t
    unfold ix
    by_cases h : x = c
    · subst h; simp
    · rw [if_neg h, List.length_cons, Nat.add_lt_add_iff_right, this, List.mem_cons]
      exact ⟨.inr, fun h2 => h2.elim (fun e => absurd e.symm h) id⟩
theorem index_ix (c : Int) (hc : 0 ≤ c ∧ c ≤ 255) : ∀ p : List Int, byte p → Lib.indexByte (p.map fun n => UInt8.ofNat n.toNat) c.toNat.toUInt8 = if ix c p < p.length then (ix c p : Int) else -1
  | [], _ => rfl
  | x :: t, hb => by
    have hx := hb x List.mem_cons_self
    have ih := index_ix c hc t (fun x hx => hb x (List.mem_cons_of_mem _ hx))
    rw [List.map_cons, Lib.indexByte, ih]
    by_cases e : x = c
    · subst e
      have e3 : (UInt8.ofNat x.toNat == x.toNat.toUInt8) = true := by simp
      have e4 : ix x (x :: t) = 0 := if_pos rfl
      rw [e3, e4]; simp
    · have e2 : ix c (x :: t) = ix c t + 1 := if_neg e
      have e3 : (UInt8.ofNat x.toNat == c.toNat.toUInt8) = false := by
        rw [beq_eq_false_iff_ne]
        intro h
        have := congrArg UInt8.toNat h
        simp at this
        omega
      rw [e3, e2]
      simp only [List.length_cons, Bool.false_eq_true, if_false, Nat.add_lt_add_iff_right]
      by_cases h : ix c t < t.length
      · rw [if_pos h, if_pos h, if_neg (by simp; try omega)]; try omega
      · rw [if_neg h, if_neg h]; rfl
theorem indexed (c : Int) (hc : 0 ≤ c ∧ c ≤ 255) (p : List Int) (hb : byte p) : strings_IndexByte.f (strOfNums p) c = some (if ix c p < p.length then (ix c p : Int) else -1) := by
  unfold strings_IndexByte.f
  rw [show (strOfNums p).data.toList = p.map fun n => UInt8.ofNat n.toNat by rw [strOfNums_data], index_ix c hc p hb]
section
variable (l : List Int) (hb : byte l) (hl : l.length ≤ 1000000)
include hb hl
theorem quoted_l0 (d : Nat) : ∀ (acc : List Int) (i : Nat), l.length - i ≤ d → i ≤ l.length → acc.length ≤ 2 * i + 1 →
    Ev (fun k => params_Quoted.l0 k (strOfNums l) acc (l.length : Int) (i : Int)) (strOfNums (acc ++ (escs (l.drop i) ++ [34]))) := by
  have stop : ∀ acc : List Int, acc.length ≤ 2 * l.length + 1 → Ev (fun k => params_Quoted.l0 k (strOfNums l) acc (l.length : Int) (l.length : Int)) (strOfNums (acc ++ (escs (l.drop l.length) ++ [34]))) := by
    intro acc ha
    refine st (fun k => by rw [params_Quoted.l0]) (no (by omega) (yes (by omega) (fin ?_)))
    rw [List.drop_eq_nil_of_le (Nat.le_refl _)]; rfl
  induction d with
  | zero =>
    intro acc i hd hi ha
    have e : i = l.length := by omega
    subst e; exact stop acc ha
  | succ d ih =>
    intro acc i hd hi ha
    rcases Nat.lt_or_ge i l.length with hlt | hge
    · have e1 : wrap64 ((i : Int) + 1) = ((i + 1 : Nat) : Int) := by rw [w64 (by omega) (by omega)]; omega
      refine st (fun k => by rw [params_Quoted.l0]) ?_
      rw [e1, str_bt l hb, strOfNums_size]
      rw [drop_rd l i hlt, escs]
      have two : ∀ c : Int, (c = 34 ∨ c = 92) → c = rd l (i : Int) → Ev (fun k => params_Quoted.l0 k (strOfNums l) ((acc ++ [92]) ++ [rd l (i : Int)]) (l.length : Int) ((i + 1 : Nat) : Int)) (strOfNums (acc ++ ((esc (rd l (i : Int)) ++ escs (l.drop (i + 1))) ++ [34]))) := by
        intro c hc e
        have h := ih ((acc ++ [92]) ++ [rd l (i : Int)]) (i + 1) (by omega) hlt (by simp; omega)
        have e3 : esc (rd l (i : Int)) = [92, rd l (i : Int)] := if_pos (by rw [← e]; exact hc)
        rw [e3]
        simpa only [List.append_assoc, List.cons_append, List.nil_append] using h
      refine yes (by omega) (yes (by omega) (yes (by omega) ?_))
      by_cases h34 : rd l (i : Int) = 34
      · exact yes h34 (yes (by omega) (bs (yes (by simp; omega) (two _ (.inl h34) rfl))))
      · refine no h34 ?_
        by_cases h92 : rd l (i : Int) = 92
        · exact yes h92 (yes (by omega) (bs (yes (by simp; omega) (two _ (.inr h92) rfl))))
        · refine no h92 (yes (by omega) ?_)
          have h := ih (acc ++ [rd l (i : Int)]) (i + 1) (by omega) hlt (by simp; omega)
          have e3 : esc (rd l (i : Int)) = [rd l (i : Int)] := if_neg (fun h => h.elim h34 h92)
          rw [e3]
          simpa only [List.append_assoc, List.cons_append, List.nil_append] using h
    · have e : i = l.length := by omega
      subst e; exact stop acc ha
theorem quoted : Ev (fun k => params_Quoted.f k (strOfNums l)) (strOfNums (qt l)) := by
  unfold params_Quoted.f
  rw [strOfNums_size]
  exact quoted_l0 l hb hl l.length [34] 0 (by omega) (Nat.zero_le _) (by simp)
theorem rquoted_l0 (d : Nat) : ∀ (acc : List Int) (i : Nat), l.length - i ≤ d → i ≤ l.length → acc.length ≤ 2 * i + 1 →
    Ev (fun k => letterboxref07_Quoted.l0 k (strOfNums l) (strOfNums acc) (i : Int)) (strOfNums (acc ++ (escs (l.drop i) ++ [34]))) := by
  have stop : ∀ acc : List Int, acc.length ≤ 2 * l.length + 1 → Ev (fun k => letterboxref07_Quoted.l0 k (strOfNums l) (strOfNums acc) (l.length : Int)) (strOfNums (acc ++ (escs (l.drop l.length) ++ [34]))) := by
    intro acc ha
    refine st (fun k => by rw [letterboxref07_Quoted.l0]) ?_
    rw [strOfNums_size, strOfNums_size]
    refine no (by omega) (yes (by omega) (fin ?_))
    rw [List.drop_eq_nil_of_le (Nat.le_refl _), ← str_append]; rfl
  induction d with
  | zero =>
    intro acc i hd hi ha
    have e : i = l.length := by omega
    subst e; exact stop acc ha
  | succ d ih =>
    intro acc i hd hi ha
    rcases Nat.lt_or_ge i l.length with hlt | hge
    · have e1 : wrap64 ((i : Int) + 1) = ((i + 1 : Nat) : Int) := by rw [w64 (by omega) (by omega)]; omega
      have ex : (strOfNums l).extract (i : Int).toNat (((i + 1 : Nat) : Int)).toNat = strOfNums [rd l (i : Int)] := by
        rw [Int.toNat_natCast, Int.toNat_natCast, str_extract, one_at l i hlt]
      have e92 : strOfNums acc ++ (⟨#[92]⟩ : ByteArray) = strOfNums (acc ++ [92]) := by rw [← str_append]; rfl
      refine st (fun k => by rw [letterboxref07_Quoted.l0]) ?_
      rw [e1, str_bt l hb, ex, e92, str_append, str_append]
      simp only [strOfNums_size]
      rw [drop_rd l i hlt, escs]
      have two : (rd l (i : Int) = 34 ∨ rd l (i : Int) = 92) → Ev (fun k => letterboxref07_Quoted.l0 k (strOfNums l) (strOfNums ((acc ++ [92]) ++ [rd l (i : Int)])) ((i + 1 : Nat) : Int)) (strOfNums (acc ++ ((esc (rd l (i : Int)) ++ escs (l.drop (i + 1))) ++ [34]))) := by
        intro hc
        have h := ih ((acc ++ [92]) ++ [rd l (i : Int)]) (i + 1) (by omega) hlt (by simp; omega)
        have e3 : esc (rd l (i : Int)) = [92, rd l (i : Int)] := if_pos hc
        rw [e3]
        simpa only [List.append_assoc, List.cons_append, List.nil_append] using h
      refine yes (by omega) (yes (by omega) ?_)
      by_cases h34 : rd l (i : Int) = 34
      · exact yes h34 (yes (by omega) (yes (by omega) (yes (by omega) (yes (by simp; omega) (two (.inl h34))))))
      · refine no h34 ?_
        by_cases h92 : rd l (i : Int) = 92
        · exact yes h92 (yes (by omega) (yes (by omega) (yes (by omega) (yes (by simp; omega) (two (.inr h92))))))
        · refine no h92 (yes (by omega) (yes (by omega) (yes (by simp; omega) ?_)))
          have h := ih (acc ++ [rd l (i : Int)]) (i + 1) (by omega) hlt (by simp; omega)
          have e3 : esc (rd l (i : Int)) = [rd l (i : Int)] := if_neg (fun h => h.elim h34 h92)
          rw [e3]
          simpa only [List.append_assoc, List.cons_append, List.nil_append] using h
    · have e : i = l.length := by omega
      subst e; exact stop acc ha
theorem rquoted : Ev (fun k => letterboxref07_Quoted.f k (strOfNums l)) (strOfNums (qt l)) := by
  unfold letterboxref07_Quoted.f
  exact rquoted_l0 l hb hl l.length [34] 0 (by omega) (Nat.zero_le _) (by simp)
theorem rprinted_l0 (d : Nat) : ∀ i : Nat, l.length - i ≤ d → i ≤ l.length → Ev (fun k => letterboxref18_printed.l0 k (strOfNums l) (i : Int)) ((l.drop i).all pr) := by
  have stop : Ev (fun k => letterboxref18_printed.l0 k (strOfNums l) (l.length : Int)) ((l.drop l.length).all pr) := by
    refine st (fun k => by rw [letterboxref18_printed.l0]) ?_
    rw [strOfNums_size, List.drop_eq_nil_of_le (Nat.le_refl _)]
    exact no (by omega) (fin rfl)
  induction d with
  | zero =>
    intro i hd hi
    have e : i = l.length := by omega
    subst e; exact stop
  | succ d ih =>
    intro i hd hi
    rcases Nat.lt_or_ge i l.length with hlt | hge
    · have e1 : wrap64 ((i : Int) + 1) = ((i + 1 : Nat) : Int) := by rw [w64 (by omega) (by omega)]; omega
      refine st (fun k => by rw [letterboxref18_printed.l0]) ?_
      rw [e1, str_bt l hb, strOfNums_size, drop_rd l i hlt, List.all_cons]
      refine yes (by omega) (yes (by omega) ?_)
      by_cases h1 : rd l (i : Int) < 32
      · have : pr (rd l (i : Int)) = false := decide_eq_false (by omega)
        rw [this]; exact yes h1 (fin rfl)
      · refine no h1 ?_
        by_cases h2 : rd l (i : Int) > 126
        · have : pr (rd l (i : Int)) = false := decide_eq_false (by omega)
          rw [this]; exact yes h2 (fin rfl)
        · have : pr (rd l (i : Int)) = true := decide_eq_true (by omega)
          rw [this, Bool.true_and]; exact no h2 (ih (i + 1) (by omega) hlt)
    · have e : i = l.length := by omega
      subst e; exact stop
theorem rprinted : Ev (fun k => letterboxref18_printed.f k (strOfNums l)) (l.all pr) := by
  unfold letterboxref18_printed.f
  exact rprinted_l0 l hb hl l.length 0 (by omega) (Nat.zero_le _)
theorem rin_l0 (c : Int) (d : Nat) : ∀ i : Nat, l.length - i ≤ d → i ≤ l.length → Ev (fun k => letterboxref01_In.l0 k (strOfNums l) c (i : Int)) (decide (c ∈ l.drop i)) := by
  have stop : Ev (fun k => letterboxref01_In.l0 k (strOfNums l) c (l.length : Int)) (decide (c ∈ l.drop l.length)) := by
    refine st (fun k => by rw [letterboxref01_In.l0]) ?_
    rw [strOfNums_size, List.drop_eq_nil_of_le (Nat.le_refl _)]
    exact no (by omega) (fin (by simp))
  induction d with
  | zero =>
    intro i hd hi
    have e : i = l.length := by omega
    subst e; exact stop
  | succ d ih =>
    intro i hd hi
    rcases Nat.lt_or_ge i l.length with hlt | hge
    · have e1 : wrap64 ((i : Int) + 1) = ((i + 1 : Nat) : Int) := by rw [w64 (by omega) (by omega)]; omega
      refine st (fun k => by rw [letterboxref01_In.l0]) ?_
      rw [e1, str_bt l hb, strOfNums_size, drop_rd l i hlt]
      refine yes (by omega) (yes (by omega) ?_)
      by_cases h : rd l (i : Int) = c
      · exact yes h (fin (decide_eq_true (by rw [h]; exact List.mem_cons_self)).symm)
      · refine no h (toE (ih (i + 1) (by omega) hlt) ?_)
        rw [decide_eq_decide, List.mem_cons]
        exact ⟨.inr, fun h2 => h2.elim (fun e => absurd e.symm h) id⟩
    · have e : i = l.length := by omega
      subst e; exact stop
theorem rin (c : Int) : Ev (fun k => letterboxref01_In.f k (strOfNums l) c) (decide (c ∈ l)) := by
  unfold letterboxref01_In.f
  exact rin_l0 l hb hl c l.length 0 (by omega) (Nat.zero_le _)
end
end Go.Proofs.Ytmdhggiffdkmfaa.Chars
