/- The law WireStrings holds: any text as a string is the document's; it is read as it was, by whatever way it went. -/
import Derived.Test.YtmdhggiffdkmfaaWire4
import Derived.Test.YtmdhggiffdkmfaaPx9
set_option linter.unusedVariables false
set_option linter.unusedSectionVars false
namespace Go.Proofs.Ytmdhggiffdkmfaa.Pure
open Go.RowKit Go.Proofs.Ytmdhggiffdkmfaa.P Go.Proofs.YtmdhggiffdkmfaaW.PrintWords Go.Proofs.YtmdhggiffdkmfaaW.PrintLast Go.Proofs.Ytmdhggiffdkmfaa.Aids Go.Proofs.Ytmdhggiffdkmfaa.Chars
section
variable (l : List Int) (hb : byte l) (hl : l.length ≤ 10000)
include hb hl
theorem tok_str : Ev (fun k => wire_Tokens.f k (str l)) ([⟨2, strOfNums l⟩], 0) := by
  unfold wire_Tokens.f
  have hn := next_str l [] hb byte_nil (by omega) (by simp)
  rw [List.append_nil] at hn
  refine tokens_step [] (str l) [] (str_byte l hb) ?_ 2 (strOfNums l) _ (by simp) hn (tokens_end _)
  unfold str qt lit; split <;> simp
theorem tok_ast : Ev (fun k => wire_Tokens.f k (ast l ++ [32, 120])) ([⟨kd l, strOfNums l⟩, ⟨5, ⟨#[]⟩⟩, ⟨1, strOfNums [120]⟩], 0) := by
  unfold wire_Tokens.f
  have h120 : byte [120] := byte_one (by decide) (by decide)
  have hr : byte [32, 120] := byte_cons (by decide) h120
  have hx := next_ast [120] [] h120 byte_nil (by simp) (by simp) (.inl rfl)
  have ha : ([120] : List Int).all atm = true := by
    rw [List.all_cons, List.all_nil, (atm_iff (c := 120) (by decide) (by decide)).2 (by decide)]; rfl
  have hk : kd [120] = 1 := if_pos ⟨by simp, ha, by decide⟩
  have ha2 : ast [120] = [120] := if_pos ⟨by simp, ha, by decide⟩
  rw [hk, ha2, List.append_nil] at hx
  refine tokens_step [] _ [32, 120] (byte_append (ast_byte l hb) hr) (by simp) (kd l) (strOfNums l) _ (by simp) (next_ast l [32, 120] hb hr (by omega) (by simp) (.inr ⟨32, [120], rfl, .inl rfl⟩)) ?_
  refine tokens_step _ _ [120] hr (by simp) 5 (⟨#[]⟩ : ByteArray) _ (by simp) (next_sign 32 5 [120] h120 (by simp) (.inr (.inr ⟨rfl, rfl⟩))) ?_
  exact tokens_step _ _ [] h120 (by simp) 1 (strOfNums [120]) _ (by simp) hx (tokens_end _)
theorem strings_j1 : Ev (fun k => letterboxlaw18_WireStrings.j1 k (strOfNums l) false) true := by
  have hsl := str_len l
  have hal := ast_len l
  have e1 : strOfNums (ast l) ++ (⟨#[32, 120]⟩ : ByteArray) = strOfNums (ast l ++ [32, 120]) := by rw [← str_append]; rfl
  have hr : byte [32, 120] := byte_cons (by decide) (byte_one (by decide) (by decide))
  refine st (fun k => by rw [letterboxlaw18_WireStrings.j1]) (no (by decide) (bnd (stringS l hb (by omega)) ?_))
  refine yes (by rw [strOfNums_size]; omega) ?_
  rw [bytes_str _ (str_byte l hb)]
  refine bnd (tok_str l hb hl) (bnd (astringS l hb (by omega)) ?_)
  refine yes (by rw [strOfNums_size]; omega) ?_
  rw [e1, strOfNums_size, bytes_str _ (byte_append (ast_byte l hb) hr)]
  refine yes (by simp; omega) (bnd (tok_ast l hb hl) ?_)
  exact yes rfl (yes rfl (yes rfl (yes (by show (0 : Int) < 1; decide) (yes rfl (yes rfl (yes rfl (yes (by show (0 : Int) < 3; decide) (yes rfl (yes (by show (1 : Int) < 3; decide) (fin rfl))))))))))
theorem strings_j0 (is : Bool) : Ev (fun k => letterboxlaw18_WireStrings.j0 k (strOfNums l) is) true := by
  have hs := stringS l hb (by omega)
  refine st (fun k => by rw [letterboxlaw18_WireStrings.j0]) (bnd hs (bnd (rstringS l hb (by omega)) (yes rfl (bnd (astringS l hb (by omega)) (bnd (rastringS l hb (by omega)) (yes rfl ?_))))))
  have hj := strings_j1 l hb hl
  cases is with
  | true =>
    refine yes rfl (bnd (g := fun k => wire_NString.f k (strOfNums l) true) (a := strOfNums (str l)) ?_ (bnd hs (yes rfl hj)))
    unfold wire_NString.f
    exact yes rfl (bnd hs (fin rfl))
  | false =>
    refine no (by decide) (bnd (g := fun k => wire_NString.f k (strOfNums l) false) (a := (⟨#[78, 73, 76]⟩ : ByteArray)) ?_ ?_)
    · unfold wire_NString.f
      exact no (by decide) (fin rfl)
    · have : ((⟨#[78, 73, 76]⟩ : ByteArray).toList != ([78, 73, 76] : List UInt8)) = false := by decide +kernel
      rw [this]; exact hj
end
theorem WireStrings : letterboxlaw18_WireStrings.Pure := by
  intro a0 a1 a2 h0
  refine Ev.rounds (g := fun k => letterboxlaw18_WireStrings.f k a0 a1 a2) ?_
  show Ev (fun k => (letterboxlaw18_awake.f).bind _) _
  refine bs (yes rfl ?_)
  by_cases hs : (a0.size : Int) > 300
  · exact yes hs (fin rfl)
  · refine no hs ?_
    have hsz := size_bytes a0
    have hbb := byte_bytes a0
    have e : a0 = strOfNums (bytesOf a0) := (str_bytes a0).symm
    generalize bytesOf a0 = l at hsz hbb e
    subst e
    rw [strOfNums_size] at hs hsz
    simp only [str_append, strOfNums_size]
    cases a2 with
    | true =>
      have b2 := byte_append hbb hbb
      have b3 := byte_append b2 hbb
      have b4 := byte_append b3 hbb
      have b5 := byte_append b4 hbb
      have b6 := byte_append b5 hbb
      exact yes rfl (yes (by omega) (yes (by simp; omega) (yes (by simp; omega) (yes (by simp; omega) (yes (by simp; omega) (strings_j0 _ b6 (by simp; omega) a1))))))
    | false => exact no (by decide) (strings_j0 l hbb (by omega) a1)
end Go.Proofs.Ytmdhggiffdkmfaa.Pure
