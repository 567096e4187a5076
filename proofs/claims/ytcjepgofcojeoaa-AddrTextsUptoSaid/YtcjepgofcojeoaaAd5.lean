/- The texts of addresses, said of lists. -/
import Derived.Test.YtcjepgofcojeoaaAd4
import Derived.Test.YtcjepgofcojeoaaPx6
set_option linter.unusedVariables false
set_option linter.unusedSimpArgs false
set_option linter.unusedSectionVars false
namespace Go.Proofs.Ytcjepgofcojeoaa.Ad
open Go.RowKit Go.Proofs.Ytcjepgofcojeoaa.P Go.Proofs.YtcjepgofcojeoaaW.PrintWords Go.Proofs.YtcjepgofcojeoaaW.PrintLast Go.Proofs.Ytcjepgofcojeoaa.Aids
def esc : List Int → List Int
  | [] => []
  | c :: t => if c = 34 ∨ c = 92 then 92 :: c :: esc t else c :: esc t
theorem esc_len : ∀ l, (esc l).length ≤ 2 * l.length
  | [] => by simp [esc]
  | c :: t => by have := esc_len t; simp only [esc]; split <;> simp <;> omega
theorem esc_byte : ∀ {l : List Int}, byte l → byte (esc l)
  | [], _ => byte_nil
  | c :: t, h => by
    have hc := h c List.mem_cons_self
    have ih := esc_byte (l := t) (fun x hx => h x (List.mem_cons_of_mem _ hx))
    simp only [esc]
    split
    · exact byte_cons (by omega) (byte_cons hc ih)
    · exact byte_cons hc ih
def quoL (s : List Int) : List Int := 34 :: (esc s ++ [34])
theorem quoL_len (s : List Int) : (quoL s).length ≤ 2 * s.length + 2 := by have := esc_len s; unfold quoL; simp; omega
theorem quoL_byte {s : List Int} (h : byte s) : byte (quoL s) := byte_cons (by omega) (byte_append (esc_byte h) (byte_one (by omega) (by omega)))
theorem qtd_esc : ∀ (s r : List Int), qtd (esc s ++ 34 :: r) = some (s, r)
  | [], r => by show qtd (34 :: r) = _; rw [qtd_cons, if_pos rfl]
  | c :: t, r => by
    have ih := qtd_esc t r
    simp only [esc]
    by_cases h : c = 34 ∨ c = 92
    · rw [if_pos h]
      show qtd (92 :: (c :: (esc t ++ 34 :: r))) = _
      rw [qtd_cons, if_neg (by decide), if_pos rfl]
      simp only
      rw [ih]; rfl
    · rw [if_neg h]
      show qtd (c :: (esc t ++ 34 :: r)) = _
      rw [qtd_cons, if_neg (fun e => h (.inl e)), if_neg (fun e => h (.inr e)), ih]; rfl
theorem pcL_quo (s Z : List Int) : pcL (quoL s ++ Z) = (pcL Z).map (Pc.w (strOfNums s) :: ·) := by
  have e : quoL s ++ Z = 34 :: (esc s ++ 34 :: Z) := by unfold quoL; simp
  rw [e, pcL_quote (qtd_esc s Z)]
theorem pquoted_l0 {s : List Int} (hb : byte s) (hl : s.length ≤ 1100000) (d : Nat) : ∀ (i : Nat) (acc : List Int), s.length - i ≤ d → i ≤ s.length → acc.length ≤ 2 * i + 1 →
    Ev (fun k => params_Quoted.l0 k (strOfNums s) acc (s.length : Int) (i : Int)) (strOfNums (acc ++ (esc (s.drop i) ++ [34]))) := by
  have stop : ∀ (i : Nat) (acc : List Int), s.length ≤ i → i ≤ s.length → acc.length ≤ 2 * i + 1 → Ev (fun k => params_Quoted.l0 k (strOfNums s) acc (s.length : Int) (i : Int)) (strOfNums (acc ++ (esc (s.drop i) ++ [34]))) := by
    intro i acc h1 h2 ha
    refine st (fun k => by rw [params_Quoted.l0]) ?_
    rw [List.drop_eq_nil_of_le h1]
    exact no (by omega) (yes (by omega) (fin rfl))
  induction d with
  | zero => intro i acc hd hi ha; exact stop i acc (by omega) hi ha
  | succ d ih =>
    intro i acc hd hi ha
    rcases Nat.lt_or_ge i s.length with hlt | hge
    · have e1 := wr1 (i := i) (by omega)
      refine st (fun k => by rw [params_Quoted.l0]) ?_
      rw [drop_rd s i hlt]
      simp only [strOfNums_size, str_bt _ hb, e1, esc, Option.bind_some]
      clear e1
      refine yes (by omega) (yes (by omega) (yes (by omega) ?_))
      by_cases h1 : rd s (i : Int) = 34
      · rw [if_pos (.inl h1)]
        refine yes h1 (yes (by omega) (yes (by simp; omega) (toE (ih (i + 1) _ (by omega) hlt (by simp; omega)) ?_)))
        congr 1; simp
      · refine no h1 ?_
        by_cases h2 : rd s (i : Int) = 92
        · rw [if_pos (.inr h2)]
          refine yes h2 (yes (by omega) (yes (by simp; omega) (toE (ih (i + 1) _ (by omega) hlt (by simp; omega)) ?_)))
          congr 1; simp
        · rw [if_neg (fun e => e.elim h1 h2)]
          refine no h2 (yes (by omega) (toE (ih (i + 1) _ (by omega) hlt (by simp; omega)) ?_))
          congr 1; simp
    · exact stop i acc hge hi ha
theorem pquoted {s : List Int} (hb : byte s) (hl : s.length ≤ 1100000) : Ev (fun k => params_Quoted.f k (strOfNums s)) (strOfNums (quoL s)) := by
  unfold params_Quoted.f
  rw [strOfNums_size]
  exact pquoted_l0 hb hl s.length 0 [34] (by omega) (by omega) (by simp)
/-! one address -/
def adL (q : Int) (n l h : List Int) : List Int :=
  if q = 0 then (if n = [] then [] else quoL n ++ [32]) ++ (60 :: quoL l) ++ (if h = [] then [] else 64 :: h) ++ [62]
  else if q = 1 then quoL n ++ [58] else if q = 2 then [59] else []
theorem adL_len (q : Int) (n l h : List Int) : (adL q n l h).length ≤ 2 * n.length + 2 * l.length + h.length + 10 := by
  have h1 := quoL_len n
  have h2 := quoL_len l
  unfold adL
  split
  · have e1 : (if n = [] then [] else quoL n ++ [32]).length ≤ 2 * n.length + 3 := by split <;> simp; omega
    have e2 : (if h = [] then [] else 64 :: h).length ≤ h.length + 1 := by split <;> simp
    simp only [List.length_append, List.length_cons, List.length_nil]
    omega
  · split
    · simp; omega
    · split <;> simp
theorem adL_byte (q : Int) {n l h : List Int} (hn : byte n) (hl : byte l) (hh : byte h) : byte (adL q n l h) := by
  unfold adL
  split
  · refine byte_append (byte_append (byte_append ?_ (byte_cons (by omega) (quoL_byte hl))) ?_) (byte_one (by omega) (by omega))
    · split
      · exact byte_nil
      · exact byte_append (quoL_byte hn) (byte_one (by omega) (by omega))
    · split
      · exact byte_nil
      · exact byte_cons (by omega) hh
  · split
    · exact byte_append (quoL_byte hn) (byte_one (by omega) (by omega))
    · split
      · exact byte_one (by omega) (by omega)
      · exact byte_nil
theorem adtext_ok (q : Int) {n l h : List Int} (hn : byte n) (hl : byte l) (hh : byte h) (ln : n.length ≤ 1100000) (ll : l.length ≤ 1100000) (lh : h.length ≤ 1100000) :
    Ev (fun k => addr_Address_text.f k q (strOfNums n) (strOfNums l) (strOfNums h)) (strOfNums (adL q n l h)) := by
  have q1 := quoL_len n
  have q2 := quoL_len l
  unfold addr_Address_text.f adL
  rw [show (⟨#[60]⟩ : ByteArray) = strOfNums [60] from rfl, show (⟨#[62]⟩ : ByteArray) = strOfNums [62] from rfl, show (⟨#[64]⟩ : ByteArray) = strOfNums [64] from rfl, show (⟨#[32]⟩ : ByteArray) = strOfNums [32] from rfl, show (⟨#[58]⟩ : ByteArray) = strOfNums [58] from rfl]
  by_cases c0 : q = 0
  · rw [if_pos c0]
    refine yes c0 (bnd (pquoted hl ll) ?_)
    simp only [str_append, strOfNums_size]
    refine yes (by omega) ?_
    by_cases c1 : n = []
    · rw [if_pos c1]
      refine yes ((str_toList_nil n).2 c1) ?_
      by_cases c2 : h = []
      · rw [if_pos c2]
        exact yes ((str_toList_nil h).2 c2) (yes (by simp; omega) (fin (by simp)))
      · rw [if_neg c2]
        exact no (fun e => c2 ((str_toList_nil h).1 e)) (yes (by omega) (yes (by simp; omega) (yes (by simp; omega) (fin (by simp)))))
    · rw [if_neg c1]
      refine no (fun e => c1 ((str_toList_nil n).1 e)) (bnd (pquoted hn ln) ?_)
      simp only [str_append, strOfNums_size]
      refine yes (by omega) (yes (by simp; omega) ?_)
      by_cases c2 : h = []
      · rw [if_pos c2]
        exact yes ((str_toList_nil h).2 c2) (yes (by simp; omega) (fin (by simp)))
      · rw [if_neg c2]
        exact no (fun e => c2 ((str_toList_nil h).1 e)) (yes (by omega) (yes (by simp; omega) (yes (by simp; omega) (fin (by simp)))))
  · rw [if_neg c0]
    refine no c0 ?_
    by_cases c1 : q = 1
    · rw [if_pos c1]
      refine yes c1 (bnd (pquoted hn ln) ?_)
      simp only [str_append, strOfNums_size]
      exact yes (by omega) (fin rfl)
    · rw [if_neg c1]
      refine no c1 ?_
      by_cases c2 : q = 2
      · exact yes c2 (fin (by rw [if_pos c2]; rfl))
      · exact no c2 (fin (by rw [if_neg c2]; rfl))
/-! addresses -/
def adT (a : S27) : List Int := adL a.f0 (bytesOf a.f1) (bytesOf a.f2) (bytesOf a.f3)
def textL : Option Int → List S27 → List Int
  | _, [] => []
  | p, a :: t => (if sepP p a.f0 = true then [44, 32] else []) ++ adT a ++ textL (some a.f0) t
def fits (a : S27) : Prop := a.f1.size ≤ 1100000 ∧ a.f2.size ≤ 1100000 ∧ a.f3.size ≤ 1100000
theorem adT_len {a : S27} (h : fits a) : (adT a).length ≤ 6000000 := by
  have := adL_len a.f0 (bytesOf a.f1) (bytesOf a.f2) (bytesOf a.f3)
  rw [size_bytes, size_bytes, size_bytes] at this
  unfold fits at h
  unfold adT
  omega
theorem tx_ok : ∀ (l : List S27) (p : Option Int) (acc : List Int), (∀ a ∈ l, fits a) → acc.length + l.length * 7000000 ≤ 100000000000 → Ev (fun k => tx_l k p l (strOfNums acc)) (strOfNums (acc ++ textL p l))
  | [], p, acc, _, _ => fin (by simp [textL])
  | a :: t, p, acc, hf, hl => by
    have ha := hf a List.mem_cons_self
    have h1 := adT_len ha
    rw [List.length_cons, Nat.succ_mul] at hl
    have he := adtext_ok a.f0 (byte_bytes a.f1) (byte_bytes a.f2) (byte_bytes a.f3) (by rw [size_bytes]; exact ha.1) (by rw [size_bytes]; exact ha.2.1) (by rw [size_bytes]; exact ha.2.2)
    rw [str_bytes, str_bytes, str_bytes] at he
    simp only [tx_l]
    refine bnd he ?_
    have hadT : adL a.f0 (bytesOf a.f1) (bytesOf a.f2) (bytesOf a.f3) = adT a := rfl
    rw [hadT, show (⟨#[44, 32]⟩ : ByteArray) = strOfNums [44, 32] from rfl]
    simp only [strOfNums_size]
    refine yes (by omega) ?_
    by_cases hs : sepP p a.f0 = true
    · have ih := tx_ok t (some a.f0) (acc ++ [44, 32] ++ adT a) (fun x hx => hf x (List.mem_cons_of_mem _ hx)) (by simp; omega)
      rw [textL, if_pos hs]
      simp only [hs, if_true, str_append]
      exact toE ih (by simp)
    · have ih := tx_ok t (some a.f0) (acc ++ adT a) (fun x hx => hf x (List.mem_cons_of_mem _ hx)) (by simp; omega)
      rw [textL, if_neg hs]
      simp only [hs, if_false, str_append]
      exact toE ih (by simp)
theorem textok (l : List S27) (hf : ∀ a ∈ l, fits a) (hl : l.length ≤ 1000) : Ev (fun k => addr_Text.f k l) (strOfNums (textL none l)) := by
  unfold addr_Text.f
  refine yes (by omega) ?_
  have := tx_ok l none [] hf (by simp; omega)
  exact this
theorem textL_byte : ∀ (l : List S27) (p : Option Int), byte (textL p l)
  | [], _ => byte_nil
  | a :: t, p => by
    rw [textL]
    refine byte_append (byte_append ?_ (adL_byte _ (byte_bytes _) (byte_bytes _) (byte_bytes _))) (textL_byte t _)
    split
    · intro c hc; simp at hc; omega
    · exact byte_nil
end Go.Proofs.Ytcjepgofcojeoaa.Ad
