/- The next token of a string, or an atom, and what stands behind. -/
import Derived.Test.YtmdhggiffdkmfaaWire3
set_option linter.unusedVariables false
set_option linter.unusedSimpArgs false
set_option linter.unusedSectionVars false
namespace Go.Proofs.Ytmdhggiffdkmfaa.Chars
open Go.RowKit Go.Proofs.Ytmdhggiffdkmfaa.P Go.Proofs.YtmdhggiffdkmfaaW.PrintWords Go.Proofs.YtmdhggiffdkmfaaW.PrintLast Go.Proofs.YtmdhggiffdkmfaaW.PrintMore Go.Proofs.Ytmdhggiffdkmfaa.Aids
def litT (l : List Int) : List Int := if (0 : Int) ∈ l then [126] else []
def litB (l rest : List Int) : List Int := (123 :: digits (l.length : Int)) ++ 125 :: (13 :: 10 :: (l ++ rest))
theorem lit_eq (l rest : List Int) : lit l ++ rest = litT l ++ litB l rest := by
  unfold lit litT litB; split <;> simp
theorem lit_tilde (l rest : List Int) : tilde (lit l ++ rest) = litB l rest := by
  rw [lit_eq]
  unfold tilde litT
  split
  · exact if_pos rfl
  · exact if_neg (by unfold litB; simp)
section
variable (l rest : List Int) (hb : byte l) (hr : byte rest) (hl : l.length ≤ 100000) (hr2 : rest.length ≤ 100000)
include hb hr hl hr2
theorem litB_byte : byte (litB l rest) := by
  unfold litB
  exact byte_append (byte_cons (by decide) (digits_byte _)) (byte_cons (by decide) (byte_cons (by decide) (byte_cons (by decide) (byte_append hb hr))))
theorem head_lit : Ev (fun k => wire_head.f k (strOfNums (lit l ++ rest))) ((((litT l).length + (digits (l.length : Int)).length + 2 : Nat) : Int), (l.length : Int), true) := by
  have hB := litB_byte l rest hb hr hl hr2
  have hd := digits_len (l.length : Int)
  have hd1 := digits_pos l.length (by omega)
  have hT : (litT l).length ≤ 1 := by unfold litT; split <;> simp
  have hLb : byte (lit l ++ rest) := by
    rw [lit_eq]
    refine byte_append ?_ hB
    unfold litT; split
    · exact byte_one (by decide) (by decide)
    · exact byte_nil
  have hBl : (litB l rest).length = (digits (l.length : Int)).length + 4 + l.length + rest.length := by unfold litB; simp; omega
  have hLl : (lit l ++ rest).length = (litT l).length + (litB l rest).length := by rw [lit_eq, List.length_append]
  have h0 : rd (litB l rest) 0 = 123 := rfl
  have hne : litB l rest ≠ [] := by unfold litB; simp
  have hix : ix 125 (litB l rest) = (digits (l.length : Int)).length + 1 := by
    unfold litB
    rw [ix_skip 125 _ _ (fun x hx => by
      rcases List.mem_cons.1 hx with rfl | hx
      · decide
      · have := digits_range l.length x hx; omega)]
    simp
  have hex : ((litB l rest).take ((digits (l.length : Int)).length + 1)).drop 1 = digits (l.length : Int) := by
    unfold litB
    rw [List.take_append_of_le_length (by simp), List.take_of_length_le (by simp)]; rfl
  unfold wire_head.f
  rw [trimPre _ hLb, lit_tilde]
  refine bs (no (fun e => hne (by rwa [toList_nil, bytes_str _ hB] at e)) (yes (by rw [strOfNums_size]; omega) ?_))
  rw [str_bt _ hB, h0]
  refine st (fun k => by rw [wire_head.j0]) (no (by decide) ?_)
  rw [indexed 125 (by decide) _ hB, hix, if_pos (by omega)]
  refine bs (no (by omega) (yes (by omega) (yes (by rw [strOfNums_size]; omega) ?_)))
  rw [Int.toNat_natCast, str_extract, hex, noPlus _ (digits_byte _) (by omega) hd1 (fun x hx => by have := digits_range l.length x hx; omega)]
  refine bs (bnd (numbered _ (digits_byte _) (by omega)) ?_)
  rw [show number (digits (l.length : Int)) = ((l.length : Int), true) by rw [number_digits (l.length : Int) (by omega) (by omega), if_pos (by omega)]]
  refine yes rfl (fin ?_)
  rw [strOfNums_size, strOfNums_size]
  congr 1
  rw [w64 (x := ((lit l ++ rest).length : Int) - ((litB l rest).length : Int)) (by omega) (by omega), w64 (x := ((lit l ++ rest).length : Int) - ((litB l rest).length : Int) + (((digits (l.length : Int)).length + 1 : Nat) : Int)) (by omega) (by omega), w64 (by omega) (by omega)]
  omega
theorem literal_lit : Ev (fun k => wire_literal.f k (strOfNums (lit l ++ rest))) (strOfNums l, strOfNums rest, true) := by
  have hd := digits_len (l.length : Int)
  have hT : (litT l).length ≤ 1 := by unfold litT; split <;> simp
  have hLl : (lit l ++ rest).length = (litT l).length + ((digits (l.length : Int)).length + 4 + l.length + rest.length) := by rw [lit_eq, List.length_append]; unfold litB; simp; omega
  have hdr : (lit l ++ rest).drop ((litT l).length + (digits (l.length : Int)).length + 2) = 13 :: 10 :: (l ++ rest) := by
    rw [lit_eq]
    unfold litB
    rw [← List.append_assoc]
    rw [show litT l ++ 123 :: digits (l.length : Int) ++ 125 :: (13 :: 10 :: (l ++ rest)) = (litT l ++ 123 :: digits (l.length : Int) ++ [125]) ++ (13 :: 10 :: (l ++ rest)) by simp]
    rw [List.drop_append_of_le_length (by simp; omega), List.drop_eq_nil_of_le (by simp; omega)]; rfl
  unfold wire_literal.f
  refine bnd (head_lit l rest hb hr hl hr2) (no (by show ¬ (((litT l).length + (digits (l.length : Int)).length + 2 : Nat) : Int) = 0; omega) (yes (by show 0 ≤ (((litT l).length + (digits (l.length : Int)).length + 2 : Nat) : Int); omega) (yes (by rw [strOfNums_size]; show (((litT l).length + (digits (l.length : Int)).length + 2 : Nat) : Int) ≤ _; omega) ?_)))
  show Ev (fun k => (strings_CutPrefix.f ((strOfNums (lit l ++ rest)).extract (((litT l).length + (digits (l.length : Int)).length + 2 : Nat) : Int).toNat (strOfNums (lit l ++ rest)).size) (⟨#[13, 10]⟩ : ByteArray)).bind _) _
  rw [Int.toNat_natCast, strOfNums_size, ext_end, hdr, show (⟨#[13, 10]⟩ : ByteArray) = strOfNums [13, 10] from rfl, cutPre _ [13, 10] (byte_cons (by decide) (byte_cons (by decide) (byte_append hb hr))) (byte_cons (by decide) (byte_one (by decide) (by decide)))]
  rw [if_pos (show (13 :: 10 :: (l ++ rest)).take ([13, 10] : List Int).length = [13, 10] from rfl)]
  refine bs (yes rfl ?_)
  show Ev (fun k => if ((strOfNums (l ++ rest)).size : Int) < (l.length : Int) then _ else (if 0 ≤ (l.length : Int) then (if (l.length : Int) ≤ ((strOfNums (l ++ rest)).size : Int) then some ((strOfNums (l ++ rest)).extract 0 (l.length : Int).toNat, (strOfNums (l ++ rest)).extract (l.length : Int).toNat (strOfNums (l ++ rest)).size, true) else none) else none)) _
  rw [strOfNums_size, Int.toNat_natCast, ext_end, str_extract, List.drop_zero, List.take_append_of_le_length (Nat.le_refl _), List.take_of_length_le (Nat.le_refl _), List.drop_append_of_le_length (Nat.le_refl _), List.drop_eq_nil_of_le (Nat.le_refl _), List.length_append]
  exact no (by omega) (yes (by omega) (yes (by omega) (fin rfl)))
end
/-- what may stand behind an atom: nothing, a space, or a bracket's end -/
def behind (rest : List Int) : Prop := rest = [] ∨ ∃ x T, rest = x :: T ∧ (x = 32 ∨ x = 41)
section
variable (a rest : List Int) (hb : byte a) (hr : byte rest) (hl : a.length ≤ 100000) (hr2 : rest.length ≤ 100000) (ha : a.all atm = true) (h91 : (91 : Int) ∉ a) (hbe : behind rest)
include hb hr hl hr2 ha h91 hbe
theorem tilde_ok (i : Nat) (hi : i < a.length) : tilde ((a ++ rest).drop i) = [] ∨ rd (tilde ((a ++ rest).drop i)) 0 ≠ 123 := by
  have hx := hb _ (rd_mem a i hi)
  have hat := (atm_iff hx.1 hx.2).1 (List.all_eq_true.1 ha _ (rd_mem a i hi))
  have hdi : (a ++ rest).drop i = rd a (i : Int) :: (a ++ rest).drop (i + 1) := by
    rw [drop_rd _ i (by simp; omega), rd_at _ i (by simp; omega), rd_at a i hi, List.getElem_append_left hi]
  rw [hdi]
  unfold tilde
  split
  · rename_i h126
    rw [List.drop_one, List.tail_cons]
    by_cases hi2 : i + 1 < a.length
    · have hx2 := hb _ (rd_mem a (i + 1) hi2)
      have hat2 := (atm_iff hx2.1 hx2.2).1 (List.all_eq_true.1 ha _ (rd_mem a (i + 1) hi2))
      have hd2 : (a ++ rest).drop (i + 1) = rd a ((i + 1 : Nat) : Int) :: (a ++ rest).drop (i + 1 + 1) := by
        rw [drop_rd _ (i + 1) (by simp; omega), rd_at _ (i + 1) (by simp; omega), rd_at a (i + 1) hi2, List.getElem_append_left hi2]
      rw [hd2]
      right
      show rd a ((i + 1 : Nat) : Int) ≠ 123
      omega
    · have hd2 : (a ++ rest).drop (i + 1) = rest := by
        rw [show i + 1 = a.length by omega, List.drop_append_of_le_length (Nat.le_refl _), List.drop_eq_nil_of_le (Nat.le_refl _)]; rfl
      rw [hd2]
      rcases hbe with rfl | ⟨x, T, rfl, hxx⟩
      · exact .inl rfl
      · right
        show x ≠ 123
        omega
  · right
    show rd a (i : Int) ≠ 123
    omega
theorem word_l0 (d : Nat) : ∀ i : Nat, a.length - i ≤ d → i ≤ a.length → Ev (fun k => wire_word.l0 k (strOfNums (a ++ rest)) (i : Int)) (a.length : Int) := by
  have hLb : byte (a ++ rest) := byte_append hb hr
  have hLl : (a ++ rest).length = a.length + rest.length := List.length_append
  have stop : Ev (fun k => wire_word.l0 k (strOfNums (a ++ rest)) (a.length : Int)) (a.length : Int) := by
    refine st (fun k => by rw [wire_word.l0]) ?_
    rw [strOfNums_size, str_bt _ hLb]
    rcases hbe with rfl | ⟨x, T, rfl, hxx⟩
    · exact no (by simp) (fin rfl)
    · have hrd : rd (a ++ x :: T) (a.length : Int) = x := by rw [rd_at _ _ (by simp)]; simp
      have j1 : Ev (fun k => wire_word.j1 k (strOfNums (a ++ x :: T)) (a.length : Int) x true) (a.length : Int) := st (fun k => by rw [wire_word.j1]) (yes rfl (fin rfl))
      rw [hrd]
      refine yes (by simp; omega) (yes (by omega) ?_)
      rcases hxx with rfl | rfl
      · exact yes (by decide) j1
      · exact no (by decide) (no (by decide) (no (by decide) (yes rfl j1)))
  induction d with
  | zero =>
    intro i hd hi
    have e : i = a.length := by omega
    subst e; exact stop
  | succ d ih =>
    intro i hd hi
    rcases Nat.lt_or_ge i a.length with hlt | hge
    · have e1 : wrap64 ((i : Int) + 1) = ((i + 1 : Nat) : Int) := by rw [w64 (by omega) (by omega)]; omega
      have hx := hb _ (rd_mem a i hlt)
      have hat := (atm_iff hx.1 hx.2).1 (List.all_eq_true.1 ha _ (rd_mem a i hlt))
      have h91' : rd a (i : Int) ≠ 91 := fun e => h91 (e ▸ rd_mem a i hlt)
      have hrd : rd (a ++ rest) (i : Int) = rd a (i : Int) := by rw [rd_at _ i (by omega), rd_at a i hlt, List.getElem_append_left hlt]
      have go := ih (i + 1) (by omega) hlt
      have hlit := literal_none ((a ++ rest).drop i) (byte_drop hLb _) (tilde_ok a rest hb hr hl hr2 ha h91 hbe i hlt)
      refine st (fun k => by rw [wire_word.l0]) ?_
      rw [strOfNums_size, str_bt _ hLb, hrd]
      refine yes (by omega) (yes (by omega) (no (by omega) (no (by omega) (no (by omega) (no (by omega) ?_)))))
      rw [beq_eq_false_iff_ne.mpr (show rd a (i : Int) ≠ 34 by omega)]
      refine st (fun k => by rw [wire_word.j1]) (no (by decide) (no (by omega) ?_))
      refine st (fun k => by rw [wire_word.j2]) ?_
      by_cases h126 : rd a (i : Int) = 126
      · refine yes (beq_iff_eq.mpr h126) (yes (by omega) (yes (by rw [strOfNums_size]; omega) ?_))
        rw [Int.toNat_natCast, strOfNums_size, ext_end, e1]
        exact bnd hlit (no (by decide) go)
      · refine no (by rw [beq_iff_eq]; exact h126) (no h91' ?_)
        rw [e1]; exact go
    · have e : i = a.length := by omega
      subst e; exact stop
theorem next_atom (h0 : a ≠ []) : Ev (fun k => wire_next.f k (strOfNums (a ++ rest))) (1, strOfNums a, strOfNums rest, true) := by
  have hLb : byte (a ++ rest) := byte_append hb hr
  have hLl : (a ++ rest).length = a.length + rest.length := List.length_append
  have hp : 0 < a.length := List.length_pos_iff.2 h0
  have hx := hb _ (rd_mem a 0 hp)
  have hat := (atm_iff hx.1 hx.2).1 (List.all_eq_true.1 ha _ (rd_mem a 0 hp))
  have hrd : rd (a ++ rest) ((0 : Nat) : Int) = rd a ((0 : Nat) : Int) := by rw [rd_at _ 0 (by omega), rd_at a 0 hp, List.getElem_append_left hp]
  have hlit := literal_none (a ++ rest) hLb (tilde_ok a rest hb hr hl hr2 ha h91 hbe 0 hp)
  have hw := word_l0 a rest hb hr hl hr2 ha h91 hbe a.length 0 (by omega) (Nat.zero_le _)
  unfold wire_next.f
  rw [strOfNums_size, str_bt _ hLb, show rd (a ++ rest) 0 = rd a 0 from hrd]
  have hat' : 33 ≤ rd a 0 ∧ rd a 0 ≠ 40 ∧ rd a 0 ≠ 41 ∧ rd a 0 ≠ 34 := ⟨hat.1, hat.2.2.1, hat.2.2.2.1, hat.2.2.2.2.2.2.2.1⟩
  refine yes (by omega) (no hat'.2.1 (no hat'.2.2.1 (no (by omega) (no hat'.2.2.2 (bnd hlit (no (by decide) ?_))))))
  refine bnd (show Ev (fun k => wire_word.f k (strOfNums (a ++ rest))) (a.length : Int) from hw) (yes (by omega) (yes (by omega) (fin ?_)))
  rw [Int.toNat_natCast, str_extract, List.drop_zero, ext_end, List.take_append_of_le_length (Nat.le_refl _), List.take_of_length_le (Nat.le_refl _), List.drop_append_of_le_length (Nat.le_refl _), List.drop_eq_nil_of_le (Nat.le_refl _), decide_eq_true (by omega)]; rfl
end
section
variable (l rest : List Int) (hb : byte l) (hr : byte rest) (hl : l.length ≤ 100000) (hr2 : rest.length ≤ 100000)
include hb hr hl hr2
theorem next_str : Ev (fun k => wire_next.f k (strOfNums (str l ++ rest))) (2, strOfNums l, strOfNums rest, true) := by
  have hsl := str_len l
  have hLb : byte (str l ++ rest) := byte_append (str_byte l hb) hr
  have hLl : (str l ++ rest).length = (str l).length + rest.length := List.length_append
  unfold wire_next.f
  rw [strOfNums_size, str_bt _ hLb]
  unfold str at hLb hLl ⊢
  by_cases h : l.length ≤ 1000 ∧ l.all pr = true
  · rw [if_pos h] at hLb hLl ⊢
    have h0 : rd (qt l ++ rest) 0 = 34 := rfl
    have hq : 0 < (qt l).length := by unfold qt; simp
    rw [h0]
    refine yes (by omega) (no (by decide) (no (by decide) (no (by decide) (yes rfl (bnd (unquoted l rest hLb (by unfold str at hsl; rw [if_pos h] at hsl; omega)) (fin rfl))))))
  · rw [if_neg h] at hLb hLl ⊢
    have h0 : rd (lit l ++ rest) 0 = 126 ∨ rd (lit l ++ rest) 0 = 123 := by
      rw [lit_eq]; unfold litT; split
      · exact .inl rfl
      · exact .inr rfl
    have hq : 0 < (lit l).length := by unfold lit; simp; omega
    exact yes (by omega) (no (by omega) (no (by omega) (no (by omega) (no (by omega) (bnd (literal_lit l rest hb hr hl hr2) (yes rfl (fin rfl)))))))
def kd (l : List Int) : Int := if l ≠ [] ∧ l.all atm = true ∧ (91 : Int) ∉ l then 1 else 2
theorem next_ast (hbe : behind rest) : Ev (fun k => wire_next.f k (strOfNums (ast l ++ rest))) (kd l, strOfNums l, strOfNums rest, true) := by
  unfold ast kd
  by_cases h : l ≠ [] ∧ l.all atm = true ∧ (91 : Int) ∉ l
  · rw [if_pos h, if_pos h]
    exact next_atom l rest hb hr hl hr2 h.2.1 h.2.2 hbe h.1
  · rw [if_neg h, if_neg h]
    exact next_str l rest hb hr hl hr2
end
theorem next_sign (c k : Int) (rest : List Int) (hr : byte rest) (hr2 : rest.length ≤ 1000000) (h : c = 40 ∧ k = 3 ∨ c = 41 ∧ k = 4 ∨ c = 32 ∧ k = 5) : Ev (fun n => wire_next.f n (strOfNums (c :: rest))) (k, (⟨#[]⟩ : ByteArray), strOfNums rest, true) := by
  have hb : byte (c :: rest) := byte_cons (by omega) hr
  have he : (strOfNums (c :: rest)).extract 1 (c :: rest).length = strOfNums rest := by rw [ext_end]; rfl
  unfold wire_next.f
  rw [strOfNums_size, str_bt _ hb, show rd (c :: rest) 0 = c from rfl, he]
  refine yes (by simp <;> omega) ?_
  rcases h with ⟨rfl, rfl⟩ | ⟨rfl, rfl⟩ | ⟨rfl, rfl⟩
  · exact yes rfl (yes (by simp <;> omega) (fin rfl))
  · exact no (by decide) (yes rfl (yes (by simp <;> omega) (fin rfl)))
  · exact no (by decide) (no (by decide) (yes rfl (yes (by simp <;> omega) (fin rfl))))
/-- one token more -/
theorem tokens_step (acc : List S43) (L rest : List Int) (hL : byte L) (hne : L ≠ []) (k : Int) (s : ByteArray) (r : List S43 × Int) (ha : acc.length ≤ 100000) (hn : Ev (fun n => wire_next.f n (strOfNums L)) (k, s, strOfNums rest, true))
    (go : Ev (fun n => wire_Tokens.l0 n (acc ++ [⟨k, s⟩]) (strOfNums rest)) r) : Ev (fun n => wire_Tokens.l0 n acc (strOfNums L)) r := by
  refine st (fun k => by rw [wire_Tokens.l0]) (no (fun e => hne (by rwa [toList_nil, bytes_str _ hL] at e)) (bnd hn ?_))
  show Ev (fun n => if true = true then (if acc.length < 5864062014805 then wire_Tokens.l0 n (acc ++ [(⟨k, s⟩ : S43)]) (strOfNums rest) else none) else some ([], 50)) r
  exact yes rfl (yes (by omega) go)
theorem tokens_end (acc : List S43) : Ev (fun n => wire_Tokens.l0 n acc (strOfNums [])) (acc, 0) := st (fun k => by rw [wire_Tokens.l0]) (yes (show (strOfNums []).toList = ([] : List UInt8) by rw [toList_nil, bytes_str [] byte_nil]) (fin rfl))
end Go.Proofs.Ytmdhggiffdkmfaa.Chars
