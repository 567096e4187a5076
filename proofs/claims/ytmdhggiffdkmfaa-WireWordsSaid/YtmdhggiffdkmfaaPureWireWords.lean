/- The law WireWords holds: texts with spaces between, as atoms or strings, are tokens that say them, whatever they are. -/
import Derived.Test.YtmdhggiffdkmfaaWire4
import Derived.Test.YtmdhggiffdkmfaaPx10
set_option linter.unusedVariables false
set_option linter.unusedSectionVars false
namespace Go.Proofs.Ytmdhggiffdkmfaa.Pure
open Go.RowKit Go.Proofs.Ytmdhggiffdkmfaa.P Go.Proofs.YtmdhggiffdkmfaaW.PrintWords Go.Proofs.YtmdhggiffdkmfaaW.PrintLast Go.Proofs.Ytmdhggiffdkmfaa.Aids Go.Proofs.Ytmdhggiffdkmfaa.Chars
def strs (L : List (List Int)) : List ByteArray := L.map strOfNums
theorem rdOf_at {α : Type} (d : α) (l : List α) (i : Nat) (h : i < l.length) : rdOf d l (i : Int) = l[i] := by
  unfold rdOf
  rw [Int.toNat_natCast, List.getD_eq_getElem?_getD, List.getElem?_eq_getElem h]; rfl
theorem strs_at (L : List (List Int)) (i : Nat) (h : i < L.length) : rdOf ByteArray.empty (strs L) (i : Int) = strOfNums L[i] := by
  rw [rdOf_at _ _ _ (by simpa [strs] using h)]; simp [strs]
/-- words with a space ahead of each; with spaces between -/
def tailW : List (List Int) → List Int
  | [] => []
  | w :: t => 32 :: (ast w ++ tailW t)
def joinW : List (List Int) → List Int
  | [] => []
  | w :: t => ast w ++ tailW t
/-- the tokens of words with a space ahead of each, and of a bracket's end -/
def bodyT : List (List Int) → List S43
  | [] => [⟨4, ⟨#[]⟩⟩]
  | w :: t => ⟨5, ⟨#[]⟩⟩ :: ⟨kd w, strOfNums w⟩ :: bodyT t
theorem bodyT_len : ∀ L, (bodyT L).length = 2 * L.length + 1
  | [] => rfl
  | w :: t => by
    rw [bodyT, List.length_cons, List.length_cons, bodyT_len t, List.length_cons]; omega
theorem bodyT_at : ∀ (L : List (List Int)) (i : Nat) (h : i < L.length), (bodyT L)[2 * i + 1]? = some ⟨kd L[i], strOfNums L[i]⟩
  | w :: t, 0, h => rfl
  | w :: t, i + 1, h => by
    have := bodyT_at t i (by simpa using h)
    rw [bodyT, show 2 * (i + 1) + 1 = (2 * i + 1) + 1 + 1 by omega, List.getElem?_cons_succ, List.getElem?_cons_succ, this]; rfl
theorem bodyT_end : ∀ L : List (List Int), (bodyT L)[2 * L.length]? = some ⟨4, ⟨#[]⟩⟩
  | [] => rfl
  | w :: t => by
    rw [bodyT, List.length_cons, show 2 * (t.length + 1) = 2 * t.length + 1 + 1 by omega, List.getElem?_cons_succ, List.getElem?_cons_succ, bodyT_end t]
def okW (L : List (List Int)) : Prop := ∀ w ∈ L, byte w ∧ w.length ≤ 60
theorem tailW_byte : ∀ L, okW L → byte (tailW L)
  | [], _ => byte_nil
  | w :: t, h => byte_cons (by decide) (byte_append (ast_byte w (h w List.mem_cons_self).1) (tailW_byte t (fun x hx => h x (List.mem_cons_of_mem _ hx))))
theorem tailW_len : ∀ L, okW L → (tailW L).length ≤ 151 * L.length
  | [], _ => Nat.le_refl _
  | w :: t, h => by
    have h1 := tailW_len t (fun x hx => h x (List.mem_cons_of_mem _ hx))
    have h2 := ast_len w
    have h3 := (h w List.mem_cons_self).2
    rw [tailW, List.length_cons, List.length_append, List.length_cons]; omega
theorem behind_tail (L : List (List Int)) : behind (tailW L ++ [41]) := by
  cases L with
  | nil => exact .inr ⟨41, [], rfl, .inr rfl⟩
  | cons w t => exact .inr ⟨32, ast w ++ tailW t ++ [41], by rw [tailW]; simp, .inl rfl⟩
theorem tokens_tail : ∀ (L : List (List Int)) (acc : List S43), okW L → L.length ≤ 20 → acc.length + 2 * L.length ≤ 1000 →
    Ev (fun n => wire_Tokens.l0 n acc (strOfNums (tailW L ++ [41]))) (acc ++ bodyT L, 0)
  | [], acc, _, _, ha => by
    have h41 : byte [41] := byte_one (by decide) (by decide)
    exact tokens_step acc [41] [] h41 (by simp) 4 (⟨#[]⟩ : ByteArray) _ (by simp at ha; omega) (next_sign 41 4 [] byte_nil (by simp) (.inr (.inl ⟨rfl, rfl⟩))) (tokens_end _)
  | w :: t, acc, h, hl, ha => by
    have ht : okW t := fun x hx => h x (List.mem_cons_of_mem _ hx)
    have hw := h w List.mem_cons_self
    have h41 : byte [41] := byte_one (by decide) (by decide)
    have hr : byte (tailW t ++ [41]) := byte_append (tailW_byte t ht) h41
    have hn := tailW_len t ht
    have haw := ast_len w
    simp only [List.length_cons] at hl ha
    have hrl : (tailW t ++ [41]).length ≤ 10000 := by simp; omega
    have e : tailW (w :: t) ++ [41] = 32 :: (ast w ++ (tailW t ++ [41])) := by rw [tailW]; simp
    have hr2 : byte (ast w ++ (tailW t ++ [41])) := byte_append (ast_byte w hw.1) hr
    have hrl2 : (ast w ++ (tailW t ++ [41])).length ≤ 20000 := by rw [List.length_append]; omega
    have go := tokens_tail t (acc ++ [⟨5, ⟨#[]⟩⟩] ++ [⟨kd w, strOfNums w⟩]) ht (by omega) (by simp; omega)
    have e2 : acc ++ [(⟨5, ⟨#[]⟩⟩ : S43)] ++ [⟨kd w, strOfNums w⟩] ++ bodyT t = acc ++ bodyT (w :: t) := by rw [bodyT]; simp
    rw [e2] at go
    rw [e]
    refine tokens_step acc _ (ast w ++ (tailW t ++ [41])) (byte_cons (by decide) hr2) (by simp) 5 (⟨#[]⟩ : ByteArray) _ (by omega) (next_sign 32 5 _ hr2 (by omega) (.inr (.inr ⟨rfl, rfl⟩))) ?_
    refine tokens_step _ _ (tailW t ++ [41]) hr2 (by simp) (kd w) (strOfNums w) _ (by simp; omega) (next_ast w _ hw.1 hr (by omega) (by omega) (behind_tail t)) ?_
    exact go
def allT (L : List (List Int)) : List S43 := ⟨3, ⟨#[]⟩⟩ :: (bodyT L).tail
theorem allT_len (L : List (List Int)) : (allT L).length = 2 * L.length + 1 := by
  have := bodyT_len L
  unfold allT
  rw [List.length_cons, List.length_tail]; omega
theorem allT_get (L : List (List Int)) (j : Nat) (h : 1 ≤ j) : (allT L)[j]? = (bodyT L)[j]? := by
  obtain ⟨i, rfl⟩ : ∃ i, j = i + 1 := ⟨j - 1, by omega⟩
  unfold allT
  rw [List.getElem?_cons_succ, List.getElem?_tail]
theorem tokens_all (L : List (List Int)) (h : okW L) (h0 : L ≠ []) (hl : L.length ≤ 10) : Ev (fun k => wire_Tokens.f k (40 :: (joinW L ++ [41]))) (allT L, 0) := by
  cases L with
  | nil => exact absurd rfl h0
  | cons w t =>
    have ht : okW t := fun x hx => h x (List.mem_cons_of_mem _ hx)
    have hw := h w List.mem_cons_self
    have h41 : byte [41] := byte_one (by decide) (by decide)
    have hr : byte (tailW t ++ [41]) := byte_append (tailW_byte t ht) h41
    have hn := tailW_len t ht
    have haw := ast_len w
    simp only [List.length_cons] at hl
    have hrl : (tailW t ++ [41]).length ≤ 10000 := by simp; omega
    have e : joinW (w :: t) ++ [41] = ast w ++ (tailW t ++ [41]) := by rw [joinW]; simp
    have hr2 : byte (ast w ++ (tailW t ++ [41])) := byte_append (ast_byte w hw.1) hr
    have hrl2 : (ast w ++ (tailW t ++ [41])).length ≤ 20000 := by rw [List.length_append]; omega
    have go := tokens_tail t ([⟨3, ⟨#[]⟩⟩] ++ [⟨kd w, strOfNums w⟩]) ht (by omega) (by simp; omega)
    unfold wire_Tokens.f
    rw [e]
    refine tokens_step [] _ (ast w ++ (tailW t ++ [41])) (byte_cons (by decide) hr2) (by simp) 3 (⟨#[]⟩ : ByteArray) _ (by simp) (next_sign 40 3 _ hr2 (by omega) (.inl ⟨rfl, rfl⟩)) ?_
    refine tokens_step _ _ (tailW t ++ [41]) hr2 (by simp) (kd w) (strOfNums w) _ (by simp) (next_ast w _ hw.1 hr (by omega) (by omega) (behind_tail t)) ?_
    exact go
theorem rd43 (xs : List S43) (j : Nat) (x : S43) (h : xs[j]? = some x) : rd_T43 xs (j : Int) = x := by
  unfold rd_T43
  rw [Int.toNat_natCast, List.getD_eq_getElem?_getD, h]; rfl
theorem kd_or (w : List Int) : kd w = 1 ∨ kd w = 2 := by unfold kd; split <;> simp
section
variable (L : List (List Int)) (hb : ∀ w ∈ L, byte w) (h0 : L ≠ []) (hl : L.length ≤ 10)
include hb h0 hl
theorem words_l1 (d : Nat) : ∀ i : Nat, L.length - i ≤ d → i ≤ L.length → Ev (fun k => letterboxlaw18_WireWords.l1 k (strs L) (allT L) (i : Int)) true := by
  have hs : (strs L).length = L.length := by simp [strs]
  have stop : Ev (fun k => letterboxlaw18_WireWords.l1 k (strs L) (allT L) (L.length : Int)) true := st (fun k => by rw [letterboxlaw18_WireWords.l1]) (no (by omega) (fin rfl))
  induction d with
  | zero =>
    intro i hd hi
    have e : i = L.length := by omega
    subst e; exact stop
  | succ d ih =>
    intro i hd hi
    rcases Nat.lt_or_ge i L.length with hlt | hge
    · have e1 : wrap64 ((i : Int) + 1) = ((i + 1 : Nat) : Int) := by rw [w64 (by omega) (by omega)]; omega
      have e2 : wrap64 (wrap64 (2 * (i : Int)) + 1) = ((2 * i + 1 : Nat) : Int) := by
        rw [w64 (x := 2 * (i : Int)) (by omega) (by omega), w64 (by omega) (by omega)]; omega
      have hT := allT_len L
      have go := ih (i + 1) (by omega) hlt
      refine st (fun k => by rw [letterboxlaw18_WireWords.l1]) ?_
      rw [e1, e2, rd43 (allT L) (2 * i + 1) ⟨kd L[i], strOfNums L[i]⟩ (by rw [allT_get L _ (by omega)]; exact bodyT_at L i hlt), strs_at L i hlt]
      refine yes (by omega) (yes (by omega) (yes (by omega) (yes (by omega) (yes rfl ?_))))
      by_cases hk : kd L[i] = 1
      · exact yes hk go
      · exact no hk (yes ((kd_or L[i]).resolve_left hk) go)
    · have e : i = L.length := by omega
      subst e; exact stop
theorem words_end (hw : ∀ w ∈ L, w.length ≤ 60) : Ev (fun k => letterboxlaw18_WireWords.l0 k (strs L) (strOfNums (joinW L)) (L.length : Int)) true := by
  have hs : (strs L).length = L.length := by simp [strs]
  have ok : okW L := fun w hm => ⟨hb w hm, hw w hm⟩
  have hp : 0 < L.length := List.length_pos_iff.2 h0
  have hT := allT_len L
  have hjl : (joinW L).length ≤ 151 * L.length ∧ byte (joinW L) := by
    cases L with
    | nil => exact absurd rfl h0
    | cons w t =>
      have h1 := tailW_len (w :: t) ok
      have h2 := tailW_byte (w :: t) ok
      rw [tailW] at h1 h2
      rw [joinW]
      exact ⟨by simp only [List.length_cons] at h1 ⊢; omega, fun x hx => h2 x (List.mem_cons_of_mem _ hx)⟩
  have e1 : ((⟨#[40]⟩ : ByteArray) ++ strOfNums (joinW L)) ++ (⟨#[41]⟩ : ByteArray) = strOfNums (40 :: (joinW L ++ [41])) := by
    rw [show (⟨#[40]⟩ : ByteArray) = strOfNums [40] from rfl, show (⟨#[41]⟩ : ByteArray) = strOfNums [41] from rfl, str_append, str_append]; simp
  have hbb : byte (40 :: (joinW L ++ [41])) := byte_cons (by decide) (byte_append hjl.2 (byte_one (by decide) (by decide)))
  have e2 : wrap64 (wrap64 (2 * ((strs L).length : Int)) + 1) = ((2 * L.length + 1 : Nat) : Int) := by
    rw [hs, w64 (x := 2 * (L.length : Int)) (by omega) (by omega), w64 (by omega) (by omega)]; omega
  have e3 : wrap64 (((allT L).length : Int) - 1) = ((2 * L.length : Nat) : Int) := by
    rw [hT, w64 (by omega) (by omega)]; omega
  refine st (fun k => by rw [letterboxlaw18_WireWords.l0]) (no (by omega) ?_)
  rw [e1, e2]
  have e40 : ((⟨#[40]⟩ : ByteArray) ++ strOfNums (joinW L)).size = (joinW L).length + 1 := by
    rw [show (⟨#[40]⟩ : ByteArray) = strOfNums [40] from rfl, str_append, strOfNums_size]; simp
  rw [e40, strOfNums_size, strOfNums_size, bytes_str _ hbb]
  refine yes (by omega) (yes (by omega) (yes (by simp; omega) (bnd (tokens_all L ok h0 hl) ?_)))
  show Ev (fun k => if (0 : Int) = 0 then (if ((allT L).length : Int) = ((2 * L.length + 1 : Nat) : Int) then (if 0 < ((allT L).length : Int) then (if (rd_T43 (allT L) 0).f0 = 3 then (if 0 ≤ wrap64 (((allT L).length : Int) - 1) then (if wrap64 (((allT L).length : Int) - 1) < ((allT L).length : Int) then letterboxlaw18_WireWords.j2 k (strs L) (allT L) ((rd_T43 (allT L) (wrap64 (((allT L).length : Int) - 1))).f0 != 4) else none) else none) else _) else none) else _) else _) true
  rw [e3, rd43 (allT L) (2 * L.length) ⟨4, ⟨#[]⟩⟩ (by rw [allT_get L _ (by omega)]; exact bodyT_end L)]
  refine yes rfl (yes (by omega) (yes (by omega) (yes rfl (yes (by omega) (yes (by omega) ?_)))))
  refine st (fun k => by rw [letterboxlaw18_WireWords.j2]) ?_
  exact no (by decide) ((words_l1 L hb h0 hl L.length 0 (by omega) (Nat.zero_le _)))
theorem words_l0 (d : Nat) : ∀ (acc : List Int) (i : Nat), L.length - i ≤ d → i ≤ L.length → acc.length ≤ 151 * i → (∀ w ∈ L.take i, w.length ≤ 60) →
    acc ++ (if i = 0 then joinW (L.drop i) else tailW (L.drop i)) = joinW L → Ev (fun k => letterboxlaw18_WireWords.l0 k (strs L) (strOfNums acc) (i : Int)) true := by
  have hs : (strs L).length = L.length := by simp [strs]
  have hp : 0 < L.length := List.length_pos_iff.2 h0
  have stop : ∀ acc : List Int, (∀ w ∈ L.take L.length, w.length ≤ 60) → acc ++ (if L.length = 0 then joinW (L.drop L.length) else tailW (L.drop L.length)) = joinW L → Ev (fun k => letterboxlaw18_WireWords.l0 k (strs L) (strOfNums acc) (L.length : Int)) true := by
    intro acc hw h
    rw [if_neg (by omega), List.drop_eq_nil_of_le (Nat.le_refl _)] at h
    have h : acc = joinW L := by simpa [tailW] using h
    subst h
    exact words_end L hb h0 hl (by rwa [List.take_of_length_le (Nat.le_refl _)] at hw)
  induction d with
  | zero =>
    intro acc i hd hi ha hw h
    have e : i = L.length := by omega
    subst e; exact stop acc hw h
  | succ d ih =>
    intro acc i hd hi ha hw h
    rcases Nat.lt_or_ge i L.length with hlt | hge
    · have e1 : wrap64 ((i : Int) + 1) = ((i + 1 : Nat) : Int) := by rw [w64 (by omega) (by omega)]; omega
      refine st (fun k => by rw [letterboxlaw18_WireWords.l0]) ?_
      rw [e1, strs_at L i hlt, strOfNums_size]
      refine yes (by omega) (yes (by omega) ?_)
      by_cases h60 : L[i].length > 60
      · exact yes (by omega) (fin rfl)
      · have hbi := hb _ (List.getElem_mem hlt)
        have hal := ast_len L[i]
        have hw2 : ∀ w ∈ L.take (i + 1), w.length ≤ 60 := by
          intro w hm
          rw [List.take_succ_eq_append_getElem hlt] at hm
          rcases List.mem_append.1 hm with hm | hm
          · exact hw w hm
          · rw [List.mem_singleton.1 hm]; omega
        have hA := astringS L[i] hbi (by omega)
        rw [List.drop_eq_getElem_cons hlt] at h
        refine no (by omega) ?_
        by_cases hi0 : i = 0
        · rw [if_pos hi0, joinW] at h
          have go := ih (acc ++ ast L[i]) (i + 1) (by omega) hlt (by rw [List.length_append]; omega) hw2 (by rw [if_neg (by omega), List.append_assoc]; exact h)
          refine no (by omega) (bnd hA ?_)
          rw [strOfNums_size, strOfNums_size, str_append]
          exact yes (by omega) go
        · rw [if_neg hi0, tailW] at h
          have go := ih ((acc ++ [32]) ++ ast L[i]) (i + 1) (by omega) hlt (by rw [List.length_append, List.length_append, List.length_singleton]; omega) hw2 (by rw [if_neg (by omega), List.append_assoc, List.append_assoc]; exact h)
          have e32 : strOfNums acc ++ (⟨#[32]⟩ : ByteArray) = strOfNums (acc ++ [32]) := by rw [← str_append]; rfl
          refine yes (by omega) ?_
          rw [strOfNums_size, e32]
          refine yes (by omega) (bnd hA ?_)
          rw [strOfNums_size, strOfNums_size, str_append]
          exact yes (by rw [List.length_append, List.length_singleton]; omega) go
    · have e : i = L.length := by omega
      subst e; exact stop acc hw h
end
theorem WireWords : letterboxlaw18_WireWords.Pure := by
  intro l0 h
  refine Ev.rounds (g := fun k => letterboxlaw18_WireWords.f k l0) ?_
  show Ev (fun k => (letterboxlaw18_awake.f).bind _) _
  refine bs (yes rfl ?_)
  have yes0 : Ev (fun k => letterboxlaw18_WireWords.j0 k l0 true) true := st (fun k => by rw [letterboxlaw18_WireWords.j0]) (yes rfl (fin rfl))
  by_cases hz : (l0.length : Int) = 0
  · exact yes hz yes0
  · refine no hz ?_
    by_cases hs : (l0.length : Int) > 10
    · rw [decide_eq_true hs]; exact yes0
    · rw [decide_eq_false hs]
      have e : l0 = strs (l0.map bytesOf) := by
        unfold strs
        rw [List.map_map]
        symm
        exact (List.map_congr_left (fun x _ => str_bytes x)).trans (List.map_id _)
      have hb : ∀ w ∈ l0.map bytesOf, byte w := by
        intro w hw
        obtain ⟨x, _, rfl⟩ := List.mem_map.1 hw
        exact byte_bytes x
      have hl : (l0.map bytesOf).length = l0.length := List.length_map ..
      generalize l0.map bytesOf = L at e hb hl
      subst e
      have hn : L ≠ [] := by
        intro e
        subst e
        exact hz rfl
      have go := words_l0 L hb hn (by omega) L.length [] 0 (by omega) (Nat.zero_le _) (Nat.le_refl _) (by simp) rfl
      refine st (fun k => by rw [letterboxlaw18_WireWords.j0]) ?_
      exact no (by decide) go
end Go.Proofs.Ytmdhggiffdkmfaa.Pure
