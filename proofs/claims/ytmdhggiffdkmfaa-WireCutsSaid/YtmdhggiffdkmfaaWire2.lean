/- A text as a string, as an atom or a string: what both printed functions make. -/
import Derived.Test.YtmdhggiffdkmfaaWire1
set_option linter.unusedVariables false
set_option linter.unusedSimpArgs false
set_option linter.unusedSectionVars false
namespace Go.Proofs.Ytmdhggiffdkmfaa.Chars
open Go.RowKit Go.Proofs.Ytmdhggiffdkmfaa.P Go.Proofs.YtmdhggiffdkmfaaW.PrintWords Go.Proofs.YtmdhggiffdkmfaaW.PrintLast Go.Proofs.YtmdhggiffdkmfaaW.PrintMore Go.Proofs.Ytmdhggiffdkmfaa.Aids
theorem k123 : (⟨#[123]⟩ : ByteArray) = strOfNums [123] := rfl
theorem k126 : (⟨#[126]⟩ : ByteArray) = strOfNums [126] := rfl
theorem k125 : (⟨#[125, 13, 10]⟩ : ByteArray) = strOfNums [125, 13, 10] := rfl
theorem lit_yes {l : List Int} (h : (0 : Int) ∈ l) : lit l = [126] ++ ((([123] ++ digits l.length) ++ [125, 13, 10]) ++ l) := by
  unfold lit; rw [if_pos h]; simp
theorem lit_no {l : List Int} (h : (0 : Int) ∉ l) : lit l = (([123] ++ digits l.length) ++ [125, 13, 10]) ++ l := by
  unfold lit; rw [if_neg h]; simp
theorem escs_len : ∀ l : List Int, (escs l).length ≤ 2 * l.length
  | [] => Nat.le_refl _
  | c :: t => by
    have := escs_len t
    unfold escs esc; split <;> simp <;> omega
theorem str_len (l : List Int) : (str l).length ≤ 2 * l.length + 30 := by
  have := escs_len l
  have := digits_len (l.length : Int)
  unfold str qt lit; split
  · simp; omega
  · split <;> simp <;> omega
theorem ast_len (l : List Int) : (ast l).length ≤ 2 * l.length + 30 := by
  have := str_len l
  unfold ast; split <;> omega
theorem escs_byte : ∀ l : List Int, byte l → byte (escs l)
  | [], _ => byte_nil
  | c :: t, hb => by
    have := escs_byte t (fun x hx => hb x (List.mem_cons_of_mem _ hx))
    have hc := hb c List.mem_cons_self
    unfold escs esc
    refine byte_append ?_ this
    split
    · exact byte_cons (by decide) (byte_one hc.1 hc.2)
    · exact byte_one hc.1 hc.2
theorem str_byte (l : List Int) (hb : byte l) : byte (str l) := by
  have h1 := escs_byte l hb
  unfold str qt lit; split
  · exact byte_cons (by decide) (byte_append h1 (byte_one (by decide) (by decide)))
  · refine byte_append ?_ (byte_cons (by decide) (byte_append (digits_byte _) (byte_cons (by decide) (byte_cons (by decide) (byte_cons (by decide) hb)))))
    split
    · exact byte_one (by decide) (by decide)
    · exact byte_nil
theorem ast_byte (l : List Int) (hb : byte l) : byte (ast l) := by
  unfold ast; split
  · exact hb
  · exact str_byte l hb
section
variable (l : List Int) (hb : byte l) (hl : l.length ≤ 100000)
include hb hl
theorem string_j0 : Ev (fun k => wire_String.j0 k (strOfNums l) false) (strOfNums (lit l)) := by
  have hd := digits_len (l.length : Int)
  refine st (fun k => by rw [wire_String.j0]) (no (by decide) ?_)
  rw [strOfNums_size]
  refine bnd (digitsS (l.length : Int) (by omega) (by omega)) ?_
  rw [k123, k125, k126, indexed 0 (by decide) l hb]
  simp only [str_append, strOfNums_size]
  have e1 : ([123] ++ digits (l.length : Int)).length = (digits (l.length : Int)).length + 1 := by simp <;> omega
  have e2 : (([123] ++ digits (l.length : Int)) ++ [125, 13, 10]).length = (digits (l.length : Int)).length + 4 := by simp <;> omega
  have e3 : ((([123] ++ digits (l.length : Int)) ++ [125, 13, 10]) ++ l).length = (digits (l.length : Int)).length + 4 + l.length := by simp <;> omega
  refine yes (by omega) (yes (by omega) (yes (by omega) (bs ?_)))
  by_cases h : (0 : Int) ∈ l
  · rw [if_pos ((ix_mem 0 l).2 h), lit_yes h]
    exact yes (by omega) (yes (by omega) (fin rfl))
  · rw [if_neg (fun h2 => h ((ix_mem 0 l).1 h2)), lit_no h]
    exact no (by omega) (fin rfl)
theorem stringS : Ev (fun k => wire_String.f k (strOfNums l)) (strOfNums (str l)) := by
  have hl0 := string_j0 l hb hl
  unfold wire_String.f str
  rw [strOfNums_size]
  by_cases h : l.length ≤ 1000
  · refine yes (by omega) ?_
    rw [all_pr l hb (by omega)]
    refine bs ?_
    cases hp : l.all pr with
    | true =>
      rw [if_pos ⟨h, rfl⟩]
      exact st (fun k => by rw [wire_String.j0]) (yes rfl (bnd (quoted l hb (by omega)) (fin rfl)))
    | false =>
      rw [if_neg (fun h2 => absurd h2.2 (by decide))]
      exact hl0
  · rw [if_neg (fun h2 => h h2.1)]
    exact no (by omega) hl0
theorem rstring_j0 : Ev (fun k => letterboxref18_String.j0 k (strOfNums l) false) (strOfNums (lit l)) := by
  have hd := digits_len (l.length : Int)
  refine st (fun k => by rw [letterboxref18_String.j0]) (no (by decide) ?_)
  rw [strOfNums_size]
  refine bnd (rin l hb (by omega) 0) (bnd (rdigitsS (l.length : Int) (by omega) (by omega)) ?_)
  rw [k123, k125, k126]
  simp only [str_append, strOfNums_size]
  have e1 : ([123] ++ digits (l.length : Int)).length = (digits (l.length : Int)).length + 1 := by simp <;> omega
  have e2 : (([123] ++ digits (l.length : Int)) ++ [125, 13, 10]).length = (digits (l.length : Int)).length + 4 := by simp <;> omega
  have e3 : ((([123] ++ digits (l.length : Int)) ++ [125, 13, 10]) ++ l).length = (digits (l.length : Int)).length + 4 + l.length := by simp <;> omega
  refine yes (by omega) (yes (by omega) (yes (by omega) ?_))
  by_cases h : (0 : Int) ∈ l
  · rw [lit_yes h]
    exact yes (decide_eq_true h) (yes (by omega) (fin rfl))
  · rw [lit_no h]
    exact no (by rw [decide_eq_false h]; decide) (fin rfl)
theorem rstringS : Ev (fun k => letterboxref18_String.f k (strOfNums l)) (strOfNums (str l)) := by
  have hl0 := rstring_j0 l hb hl
  unfold letterboxref18_String.f str
  rw [strOfNums_size]
  refine bnd (rprinted l hb (by omega)) ?_
  cases hp : l.all pr with
  | true =>
    refine yes rfl ?_
    by_cases h : l.length ≤ 1000
    · rw [if_pos ⟨h, rfl⟩, decide_eq_true (show (l.length : Int) ≤ 1000 by omega)]
      exact st (fun k => by rw [letterboxref18_String.j0]) (yes rfl (bnd (rquoted l hb (by omega)) (fin rfl)))
    · rw [if_neg (fun h2 => h h2.1), decide_eq_false (show ¬ (l.length : Int) ≤ 1000 by omega)]
      exact hl0
  | false =>
    rw [if_neg (fun h2 => absurd h2.2 (by decide))]
    exact no (by decide) hl0
theorem astringS : Ev (fun k => wire_Astring.f k (strOfNums l)) (strOfNums (ast l)) := by
  have hs := stringS l hb hl
  unfold wire_Astring.f ast
  have e0 : (strOfNums l).toList = [] ↔ l = [] := by rw [toList_nil, bytes_str l hb]
  by_cases h0 : l = []
  · rw [if_neg (fun h => h.1 h0)]
    exact yes (e0.2 h0) (bnd hs (fin rfl))
  · refine no (fun h => h0 (e0.1 h)) ?_
    rw [all_atm l hb (by omega)]
    refine bs ?_
    cases ha : l.all atm with
    | false =>
      rw [if_neg (fun h => absurd h.2.1 (by decide))]
      exact no (by decide) (bnd hs (fin rfl))
    | true =>
      refine yes rfl ?_
      rw [indexed 91 (by decide) l hb]
      refine bs ?_
      by_cases h : (91 : Int) ∈ l
      · rw [if_pos ((ix_mem 91 l).2 h), if_neg (fun h2 => h2.2.2 h)]
        exact no (by omega) (bnd hs (fin rfl))
      · rw [if_neg (fun h2 => h ((ix_mem 91 l).1 h2)), if_pos ⟨h0, rfl, h⟩]
        exact yes (by omega) (fin rfl)
theorem rastring_l0 (d : Nat) : ∀ (i : Nat) (ok : Bool), l.length - i ≤ d → i ≤ l.length →
    Ev (fun k => letterboxref18_Astring.l0 k (strOfNums l) ok (i : Int)) (if ok = true ∧ (l.drop i).all atm = true ∧ (91 : Int) ∉ l.drop i then strOfNums l else strOfNums (str l)) := by
  have hs := rstringS l hb hl
  have stop : ∀ ok : Bool, Ev (fun k => letterboxref18_Astring.l0 k (strOfNums l) ok (l.length : Int)) (if ok = true ∧ (l.drop l.length).all atm = true ∧ (91 : Int) ∉ l.drop l.length then strOfNums l else strOfNums (str l)) := by
    intro ok
    refine st (fun k => by rw [letterboxref18_Astring.l0]) ?_
    rw [strOfNums_size, List.drop_eq_nil_of_le (Nat.le_refl _)]
    refine no (by omega) ?_
    cases ok with
    | true => rw [if_pos ⟨rfl, rfl, by simp⟩]; exact yes rfl (fin rfl)
    | false => rw [if_neg (fun h => absurd h.1 (by decide))]; exact no (by decide) (bnd hs (fin rfl))
  induction d with
  | zero =>
    intro i ok hd hi
    have e : i = l.length := by omega
    subst e; exact stop ok
  | succ d ih =>
    intro i ok hd hi
    rcases Nat.lt_or_ge i l.length with hlt | hge
    · have e1 : wrap64 ((i : Int) + 1) = ((i + 1 : Nat) : Int) := by rw [w64 (by omega) (by omega)]; omega
      have hx := hb _ (rd_mem l i hlt)
      refine st (fun k => by rw [letterboxref18_Astring.l0]) ?_
      rw [e1, str_bt l hb, strOfNums_size, drop_rd l i hlt, List.all_cons]
      refine yes (by omega) (yes (by omega) (bnd (ratom hx.1 hx.2) ?_))
      have go := fun ok' => ih (i + 1) ok' (by omega) hlt
      cases ok with
      | false =>
        rw [if_neg (fun h => absurd h.1 (by decide))]
        refine no (by decide) (toE (go false) ?_)
        rw [if_neg (fun h => absurd h.1 (by decide))]
      | true =>
        refine yes rfl ?_
        cases ha : atm (rd l (i : Int)) with
        | false =>
          rw [Bool.false_and, if_neg (fun h => absurd h.2.1 (by decide))]
          refine no (by decide) (toE (go false) ?_)
          rw [if_neg (fun h => absurd h.1 (by decide))]
        | true =>
          rw [Bool.true_and]
          refine yes rfl (toE (go (rd l (i : Int) != 91)) ?_)
          congr 1
          rw [bne_iff_ne, List.mem_cons]
          refine propext ⟨fun h => ⟨rfl, h.2.1, fun h2 => h2.elim (fun e => h.1 e.symm) h.2.2⟩, fun h => ⟨fun e => h.2.2 (.inl e.symm), h.2.1, fun e => h.2.2 (.inr e)⟩⟩
    · have e : i = l.length := by omega
      subst e; exact stop ok
theorem rastringS : Ev (fun k => letterboxref18_Astring.f k (strOfNums l)) (strOfNums (ast l)) := by
  unfold letterboxref18_Astring.f
  refine toE (rastring_l0 l hb hl l.length 0 _ (by omega) (Nat.zero_le _)) ?_
  unfold ast
  have e0 : (strOfNums l).toList = [] ↔ l = [] := by rw [toList_nil, bytes_str l hb]
  have e1 : ((strOfNums l).toList != ([] : List UInt8)) = true ↔ l ≠ [] := by rw [bne_iff_ne, ne_eq, e0]
  rw [List.drop_zero]
  by_cases h : l ≠ [] ∧ l.all atm = true ∧ (91 : Int) ∉ l
  · rw [if_pos h, if_pos ⟨e1.2 h.1, h.2⟩]
  · rw [if_neg h, if_neg (fun h2 => h ⟨e1.1 h2.1, h2.2⟩)]
end
end Go.Proofs.Ytmdhggiffdkmfaa.Chars
