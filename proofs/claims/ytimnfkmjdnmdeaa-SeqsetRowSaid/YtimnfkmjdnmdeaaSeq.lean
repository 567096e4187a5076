/- Sets of numbers: what both printed parsers tell, and which numbers a set has. -/
import Derived.Test.YtimnfkmjdnmdeaaSplit
import Derived.Test.YtimnfkmjdnmdeaaNumber
import Derived.Test.YtimnfkmjdnmdeaaPx5
import Derived.Test.YtimnfkmjdnmdeaaPx6
set_option linter.unusedVariables false
set_option linter.unusedSimpArgs false
set_option linter.unusedSectionVars false
namespace Go.Proofs.Ytimnfkmjdnmdeaa.Chars
open Go.RowKit Go.Proofs.Ytimnfkmjdnmdeaa.P Go.Proofs.YtimnfkmjdnmdeaaW.PrintWords Go.Proofs.YtimnfkmjdnmdeaaW.PrintLast Go.Proofs.Ytimnfkmjdnmdeaa.Aids
/-- one of a text; below 0: none -/
def num (p : List Int) : Int := if p = [42] then 0 else if (number p).2 = true then (if (number p).1 = 0 then -1 else (number p).1) else -1
theorem numL_ge : ∀ (l : List Int) (n m : Int), 0 ≤ n → numL l n = some m → 0 ≤ m
  | [], n, m, h, e => by cases e; exact h
  | c :: t, n, m, h, e => by
    rw [numL] at e
    split at e
    · cases e
    · split at e
      · cases e
      · exact numL_ge t _ m (by omega) e
theorem number_ge (l : List Int) : 0 ≤ (number l).1 := by
  unfold number
  split
  · simp
  · unfold asNum
    cases h : numL l 0 with
    | none => simp
    | some n =>
      have := numL_ge l 0 n (by omega) h
      simp only
      split <;> simp <;> omega
theorem toList_star (p : List Int) (hb : byte p) : (strOfNums p).toList = ([42] : List UInt8) ↔ p = [42] := by
  have e : (strOfNums [42]).toList = ([42] : List UInt8) := by rw [ByteArray.toList_eq, strOfNums_data]; rfl
  constructor
  · intro h
    have h' : (strOfNums p).toList = (strOfNums [42]).toList := h.trans e.symm
    rw [toList_iff, bytes_str p hb, bytes_str [42] (byte_one (by omega) (by omega))] at h'
    exact h'
  · rintro rfl; exact e
theorem num_star : num [42] = 0 := rfl
theorem num_bad {p : List Int} (h : p ≠ [42]) (h2 : (number p).2 ≠ true) : num p = -1 := by unfold num; rw [if_neg h, if_neg h2]
theorem num_zero {p : List Int} (h : p ≠ [42]) (h2 : (number p).2 = true) (h3 : (number p).1 = 0) : num p = -1 := by unfold num; rw [if_neg h, if_pos h2, if_pos h3]
theorem num_is {p : List Int} (h : p ≠ [42]) (h2 : (number p).2 = true) (h3 : (number p).1 ≠ 0) : num p = (number p).1 := by unfold num; rw [if_neg h, if_pos h2, if_neg h3]
theorem num_ok (p : List Int) (hb : byte p) (hl : p.length ≤ 1000000) : Ev (fun k => seqset_number.f k (strOfNums p)) (num p) := by
  unfold seqset_number.f
  by_cases h : p = [42]
  · subst h; exact yes ((toList_star _ hb).2 rfl) (fin rfl)
  · refine no (fun e => h ((toList_star p hb).1 e)) (bnd (numbered p hb hl) ?_)
    by_cases h2 : (number p).2 = true
    · by_cases h3 : (number p).1 = 0
      · rw [num_zero h h2 h3]; exact yes h2 (yes h3 (fin rfl))
      · rw [num_is h h2 h3]; exact yes h2 (no h3 (fin rfl))
    · rw [num_bad h h2]; exact no h2 (fin rfl)
theorem rnum_ok (p : List Int) (hb : byte p) (hl : p.length ≤ 1000000) : Ev (fun k => letterboxref21_number.f k (strOfNums p)) (num p) := by
  have hg := number_ge p
  unfold letterboxref21_number.f
  refine bnd (rnumbered p hb hl) ?_
  by_cases h : p = [42]
  · subst h; exact yes ((toList_star _ hb).2 rfl) (fin rfl)
  · refine no (fun e => h ((toList_star p hb).1 e)) ?_
    by_cases h2 : (number p).2 = true
    · by_cases h3 : (number p).1 = 0
      · rw [num_zero h h2 h3]; exact yes h2 (yes (by omega) (fin rfl))
      · rw [num_is h h2 h3]; exact yes h2 (no (by omega) (fin rfl))
    · rw [num_bad h h2]; exact no h2 (fin rfl)
/-- where the colon stands, or the length -/
def col : List Int → Nat
  | [] => 0
  | c :: t => if c = 58 then 0 else col t + 1
theorem col_le : ∀ p : List Int, col p ≤ p.length
  | [] => Nat.le_refl _
  | c :: t => by
    have := col_le t
    rw [col]; simp only [List.length_cons]
    split <;> omega
theorem col_at : ∀ p : List Int, col p < p.length → rd p (col p : Int) = 58
  | [], h => by simp [col] at h
  | c :: t, h => by
    by_cases e : c = 58
    · have : col (c :: t) = 0 := if_pos e
      rw [this]; exact e
    · have e2 : col (c :: t) = col t + 1 := if_neg e
      rw [e2] at h ⊢
      exact col_at t (by simpa using h)
theorem col_no : ∀ (p : List Int) (j : Nat), j < col p → rd p (j : Int) ≠ 58
  | [], j, h => by simp [col] at h
  | c :: t, j, h => by
    by_cases e : c = 58
    · have : col (c :: t) = 0 := if_pos e
      omega
    · have e2 : col (c :: t) = col t + 1 := if_neg e
      rw [e2] at h
      cases j with
      | zero => exact e
      | succ j => exact col_no t j (by omega)
def pre (p : List Int) : List Int := p.take (col p)
def suf (p : List Int) : List Int := p.drop (col p + 1)
def rng (p : List Int) : Int × Int := (num (pre p), if col p < p.length then num (suf p) else num (pre p))
theorem index_col : ∀ p : List Int, byte p → Lib.indexByte (p.map fun n => UInt8.ofNat n.toNat) 58 = if col p < p.length then (col p : Int) else -1
  | [], _ => rfl
  | c :: t, hb => by
    have hx := hb c List.mem_cons_self
    have ih := index_col t (fun x hx => hb x (List.mem_cons_of_mem _ hx))
    rw [List.map_cons, Lib.indexByte, ih]
    by_cases e : c = 58
    · subst e; rfl
    · have e2 : col (c :: t) = col t + 1 := if_neg e
      have e3 : (UInt8.ofNat c.toNat == (58 : UInt8)) = false := by
        rw [beq_eq_false_iff_ne]
        intro h
        have := congrArg UInt8.toNat h
        simp at this
        omega
      rw [e3, e2]
      simp only [List.length_cons, Bool.false_eq_true, if_false, Nat.add_lt_add_iff_right]
      by_cases h : col t < t.length
      · rw [if_pos h, if_pos h, if_neg (by simp; try omega)]; try omega
      · rw [if_neg h, if_neg h]; rfl
theorem cut_ok (p : List Int) (hb : byte p) (hl : p.length ≤ 1000000) : strings_Cut.f (strOfNums p) (⟨#[58]⟩ : ByteArray) = some (strOfNums (pre p), (if col p < p.length then strOfNums (suf p) else ⟨#[]⟩), decide (col p < p.length)) := by
  unfold strings_Cut.f
  rw [if_pos ⟨by rw [strOfNums_size]; omega, rfl⟩]
  have e := index_col p hb
  have hd : (strOfNums p).data.toList = p.map fun n => UInt8.ofNat n.toNat := by rw [strOfNums_data]
  show some (sq_cut (strOfNums p) 58) = _
  unfold sq_cut
  rw [hd, e]
  by_cases h : col p < p.length
  · rw [if_pos h, if_pos (by omega), if_pos h, decide_eq_true h, str_extract, str_extract, strOfNums_size, Int.toNat_natCast, List.drop_zero, List.take_of_length_le (Nat.le_refl _)]; rfl
  · rw [if_neg h, if_neg (by omega), if_neg h, decide_eq_false h]
    have : col p = p.length := by have := col_le p; omega
    unfold pre
    rw [this, List.take_of_length_le (Nat.le_refl _)]
def s32 (x : Int × Int) : S32 := ⟨x.1, x.2⟩
def s33 (x : Int × Int) : S33 := ⟨x.1, x.2⟩
def parseP : List (List Int) → List (Int × Int) → Nat → List (Int × Int) × Int
  | [], acc, n => if n > 1000 then ([], 13) else (acc, 0)
  | p :: t, acc, n => if (rng p).1 < 0 ∨ (rng p).2 < 0 then ([], 50) else parseP t (acc ++ [rng p]) n
theorem parseP_bad {p : List Int} {t : List (List Int)} {acc : List (Int × Int)} {n : Nat} (h : (rng p).1 < 0 ∨ (rng p).2 < 0) : parseP (p :: t) acc n = ([], 50) := if_pos h
theorem parseP_next {p : List Int} {t : List (List Int)} {acc : List (Int × Int)} {n : Nat} (h : ¬ ((rng p).1 < 0 ∨ (rng p).2 < 0)) : parseP (p :: t) acc n = parseP t (acc ++ [rng p]) n := if_neg h
def as32 (r : List (Int × Int) × Int) : List S32 × Int := (r.1.map s32, r.2)
def as33 (r : List (Int × Int) × Int) : List S33 × Int := (r.1.map s33, r.2)
theorem drop_get {α : Type} (L : List α) (i : Nat) (h : i < L.length) : L.drop i = L[i] :: L.drop (i + 1) := List.drop_eq_getElem_cons h
theorem pre_byte {p : List Int} (h : byte p) : byte (pre p) := byte_take h _
theorem suf_byte {p : List Int} (h : byte p) : byte (suf p) := byte_drop h _
theorem pre_len (p : List Int) : (pre p).length ≤ p.length := by unfold pre; simp; omega
theorem suf_len (p : List Int) : (suf p).length ≤ p.length := by unfold suf; simp
section
variable (L : List (List Int)) (hL : ∀ p ∈ L, byte p ∧ p.length ≤ 1000000) (hn : L.length ≤ 1000000)
include hL hn
theorem parse_l0 (d : Nat) : ∀ (acc : List (Int × Int)) (i : Nat), L.length - i ≤ d → i ≤ L.length → acc.length ≤ i →
    Ev (fun k => seqset_Parse.l0 k (acc.map s32) (strs L) (strs L) (L.length : Int) (i : Int)) (as32 (parseP (L.drop i) acc L.length)) := by
  have hs : (strs L).length = L.length := by simp [strs]
  have stop : ∀ acc : List (Int × Int), Ev (fun k => seqset_Parse.l0 k (acc.map s32) (strs L) (strs L) (L.length : Int) (L.length : Int)) (as32 (parseP (L.drop L.length) acc L.length)) := by
    intro acc
    refine st (fun k => by rw [seqset_Parse.l0]) (no (by omega) ?_)
    rw [List.drop_eq_nil_of_le (Nat.le_refl _), parseP]
    by_cases h : L.length > 1000
    · rw [if_pos h]; exact yes (by omega) (fin rfl)
    · rw [if_neg h]; exact no (by omega) (fin rfl)
  induction d with
  | zero =>
    intro acc i hd hi ha
    have e : i = L.length := by omega
    subst e; exact stop acc
  | succ d ih =>
    intro acc i hd hi ha
    rcases Nat.lt_or_ge i L.length with hlt | hge
    · have e1 : wrap64 ((i : Int) + 1) = ((i + 1 : Nat) : Int) := by rw [w64 (by omega) (by omega)]; omega
      have hp := hL L[i] (List.getElem_mem hlt)
      have go := ih (acc ++ [rng L[i]]) (i + 1) (by omega) hlt (by simp; omega)
      refine st (fun k => by rw [seqset_Parse.l0]) ?_
      rw [strs_at L i hlt, cut_ok _ hp.1 hp.2, e1, drop_get L i hlt]
      generalize L[i] = p at hp go ⊢
      have na := num_ok (pre p) (pre_byte hp.1) (by have := pre_len p; omega)
      refine yes (by omega) (yes (by omega) (yes (by omega) (bs (bnd na (bnd na ?_)))))
      by_cases h : col p < p.length
      · have nb := num_ok (suf p) (suf_byte hp.1) (by have := suf_len p; omega)
        have hr : rng p = (num (pre p), num (suf p)) := by unfold rng; rw [if_pos h]
        refine yes (decide_eq_true h) ?_
        show Ev (fun k => (seqset_number.f k (if col p < p.length then strOfNums (suf p) else ⟨#[]⟩)).bind _) _
        rw [if_pos h]
        refine bnd nb ?_
        by_cases h1 : num (pre p) < 0
        · rw [parseP_bad (.inl (by rw [hr]; exact h1))]; exact yes h1 (fin rfl)
        · by_cases h2 : num (suf p) < 0
          · rw [parseP_bad (.inr (by rw [hr]; exact h2))]; exact no h1 (yes h2 (fin rfl))
          · rw [parseP_next (by rw [hr]; exact fun e => e.elim h1 h2)]
            rw [hr, List.map_append] at go
            rw [hr]
            exact no h1 (no h2 (yes (by simp; omega) go))
      · have hr : rng p = (num (pre p), num (pre p)) := by unfold rng; rw [if_neg h]
        refine no (by simpa using h) ?_
        by_cases h1 : num (pre p) < 0
        · rw [parseP_bad (.inl (by rw [hr]; exact h1))]; exact yes h1 (fin rfl)
        · rw [parseP_next (by rw [hr]; exact fun e => e.elim h1 h1)]
          rw [hr, List.map_append] at go
          rw [hr]
          exact no h1 (no h1 (yes (by simp; omega) go))
    · have e : i = L.length := by omega
      subst e; exact stop acc
theorem rparse_j2 (acc : List (Int × Int)) (i : Nat) (hlt : i < L.length) (ha : acc.length = i)
    (go : Ev (fun k => letterboxref21_Parse.l0 k (strs L) ((acc ++ [rng L[i]]).map s33) ((i + 1 : Nat) : Int)) (as33 (parseP (L.drop (i + 1)) (acc ++ [rng L[i]]) L.length))) :
    Ev (fun k => letterboxref21_Parse.j2 k (strs L) (acc.map s33) (i : Int) (col L[i] : Int)) (as33 (parseP (L.drop i) acc L.length)) := by
  have hs : (strs L).length = L.length := by simp [strs]
  have e1 : wrap64 ((i : Int) + 1) = ((i + 1 : Nat) : Int) := by rw [w64 (by omega) (by omega)]; omega
  have hp := hL L[i] (List.getElem_mem hlt)
  refine st (fun k => by rw [letterboxref21_Parse.j2]) ?_
  rw [strs_at L i hlt, drop_get L i hlt, e1]
  generalize L[i] = p at hp go ⊢
  have hc := col_le p
  have e2 : wrap64 ((col p : Int) + 1) = ((col p + 1 : Nat) : Int) := by rw [w64 (by omega) (by omega)]; omega
  rw [e2]
  simp only [strOfNums_size, str_extract, Int.toNat_natCast, List.drop_zero]
  have na := rnum_ok (pre p) (pre_byte hp.1) (by have := pre_len p; omega)
  refine yes (by omega) (yes (by omega) (yes (by omega) (yes (by omega) (bnd na ?_))))
  by_cases h : col p < p.length
  · have nb := rnum_ok (suf p) (suf_byte hp.1) (by have := suf_len p; omega)
    have hr : rng p = (num (pre p), num (suf p)) := by unfold rng; rw [if_pos h]
    rw [List.take_of_length_le (Nat.le_refl p.length)]
    refine yes (by omega) (yes (by omega) (yes (by omega) (bnd nb ?_)))
    by_cases h1 : num (pre p) < 0
    · rw [parseP_bad (.inl (by rw [hr]; exact h1))]; exact yes h1 (fin rfl)
    · by_cases h2 : num (suf p) < 0
      · rw [parseP_bad (.inr (by rw [hr]; exact h2))]; exact no h1 (yes h2 (fin rfl))
      · rw [parseP_next (by rw [hr]; exact fun e => e.elim h1 h2)]
        rw [hr, List.map_append] at go
        rw [hr]
        exact no h1 (no h2 (yes (by simp; omega) go))
  · have hr : rng p = (num (pre p), num (pre p)) := by unfold rng; rw [if_neg h]
    refine no (by omega) ?_
    by_cases h1 : num (pre p) < 0
    · rw [parseP_bad (.inl (by rw [hr]; exact h1))]; exact yes h1 (fin rfl)
    · rw [parseP_next (by rw [hr]; exact fun e => e.elim h1 h1)]
      rw [hr, List.map_append] at go
      rw [hr]
      exact no h1 (yes (by simp; omega) go)
theorem rparse_l1 (acc : List (Int × Int)) (i : Nat) (hlt : i < L.length) (ha : acc.length = i)
    (go : Ev (fun k => letterboxref21_Parse.l0 k (strs L) ((acc ++ [rng L[i]]).map s33) ((i + 1 : Nat) : Int)) (as33 (parseP (L.drop (i + 1)) (acc ++ [rng L[i]]) L.length))) (d : Nat) :
    ∀ j : Nat, col L[i] - j ≤ d → j ≤ col L[i] → Ev (fun k => letterboxref21_Parse.l1 k (strs L) (acc.map s33) (i : Int) (j : Int)) (as33 (parseP (L.drop i) acc L.length)) := by
  have hs : (strs L).length = L.length := by simp [strs]
  have hp := hL L[i] (List.getElem_mem hlt)
  have hc := col_le L[i]
  have stop : Ev (fun k => letterboxref21_Parse.l1 k (strs L) (acc.map s33) (i : Int) (col L[i] : Int)) (as33 (parseP (L.drop i) acc L.length)) := by
    have j2 := rparse_j2 L hL hn acc i hlt ha go
    refine st (fun k => by rw [letterboxref21_Parse.l1]) ?_
    rw [strs_at L i hlt]
    simp only [strOfNums_size, str_bt _ hp.1]
    refine yes (by omega) (yes (by omega) ?_)
    by_cases h : col L[i] < L[i].length
    · exact yes (by omega) (yes (by omega) (yes (col_at _ h) j2))
    · exact no (by omega) j2
  induction d with
  | zero =>
    intro j hd hj
    have e : j = col L[i] := by omega
    subst e; exact stop
  | succ d ih =>
    intro j hd hj
    rcases Nat.lt_or_ge j (col L[i]) with hl | hg
    · have e1 : wrap64 ((j : Int) + 1) = ((j + 1 : Nat) : Int) := by rw [w64 (by omega) (by omega)]; omega
      refine st (fun k => by rw [letterboxref21_Parse.l1]) ?_
      rw [strs_at L i hlt, e1]
      simp only [strOfNums_size, str_bt _ hp.1]
      exact yes (by omega) (yes (by omega) (yes (by omega) (yes (by omega) (no (col_no _ _ hl) (ih (j + 1) (by omega) hl)))))
    · have e : j = col L[i] := by omega
      subst e; exact stop
theorem rparse_l0 (d : Nat) : ∀ (acc : List (Int × Int)) (i : Nat), L.length - i ≤ d → i ≤ L.length → acc.length = i →
    Ev (fun k => letterboxref21_Parse.l0 k (strs L) (acc.map s33) (i : Int)) (as33 (parseP (L.drop i) acc L.length)) := by
  have hs : (strs L).length = L.length := by simp [strs]
  have stop : ∀ acc : List (Int × Int), acc.length = L.length → Ev (fun k => letterboxref21_Parse.l0 k (strs L) (acc.map s33) (L.length : Int)) (as33 (parseP (L.drop L.length) acc L.length)) := by
    intro acc ha
    refine st (fun k => by rw [letterboxref21_Parse.l0]) (no (by omega) ?_)
    rw [List.drop_eq_nil_of_le (Nat.le_refl _), parseP, List.length_map, ha]
    by_cases h : L.length > 1000
    · rw [if_pos h]; exact yes (by omega) (fin rfl)
    · rw [if_neg h]; exact no (by omega) (fin rfl)
  induction d with
  | zero =>
    intro acc i hd hi ha
    have e : i = L.length := by omega
    subst e; exact stop acc ha
  | succ d ih =>
    intro acc i hd hi ha
    rcases Nat.lt_or_ge i L.length with hlt | hge
    · refine st (fun k => by rw [letterboxref21_Parse.l0]) (yes (by omega) ?_)
      exact rparse_l1 L hL hn acc i hlt ha (ih (acc ++ [rng L[i]]) (i + 1) (by omega) hlt (by simp; omega)) _ 0 (Nat.le_refl _) (Nat.zero_le _)
    · have e : i = L.length := by omega
      subst e; exact stop acc ha
end
def parsed (l : List Int) : List (Int × Int) × Int := parseP (splitL 44 l []) [] (splitL 44 l []).length
theorem splitL_each (z : Int) (l cur : List Int) : ∀ p ∈ splitL z l cur, p.length ≤ l.length + cur.length := by
  induction l generalizing cur with
  | nil => intro p hp; rw [splitL, List.mem_singleton] at hp; rw [hp]; simp
  | cons c t ih =>
    rw [splitL]
    by_cases h : c = z
    · rw [if_pos h]; intro p hp
      rcases List.mem_cons.1 hp with rfl | hp
      · simp only [List.length_cons]; omega
      · have := ih [] p hp; simp only [List.length_cons, List.length_nil] at *; omega
    · rw [if_neg h]; intro p hp
      have := ih _ p hp; simp only [List.length_cons, List.length_append, List.length_nil] at *; omega
theorem parse_ok (s : ByteArray) (hs : s.size ≤ 100000) : Ev (fun k => seqset_Parse.f k s) (as32 (parsed (bytesOf s))) := by
  have hl := size_bytes s
  have hn := splitL_len 44 (bytesOf s) []
  have := parse_l0 (splitL 44 (bytesOf s) []) (fun p hp => ⟨splitL_byte 44 _ _ (byte_bytes s) byte_nil p hp, by have := splitL_each 44 _ _ p hp; simp at this; omega⟩) (by omega) _ [] 0 (Nat.le_refl _) (Nat.zero_le _) (by simp)
  unfold seqset_Parse.f
  refine bnd (split s 44 (by omega)) ?_
  have e : (strs (splitL 44 (bytesOf s) [])).length = (splitL 44 (bytesOf s) []).length := by simp [strs]
  rw [e]
  exact this
theorem rparse_ok (s : ByteArray) (hs : s.size ≤ 100000) : Ev (fun k => letterboxref21_Parse.f k s) (as33 (parsed (bytesOf s))) := by
  have hl := size_bytes s
  have hn := splitL_len 44 (bytesOf s) []
  have := rparse_l0 (splitL 44 (bytesOf s) []) (fun p hp => ⟨splitL_byte 44 _ _ (byte_bytes s) byte_nil p hp, by have := splitL_each 44 _ _ p hp; simp at this; omega⟩) (by omega) _ [] 0 (Nat.le_refl _) (Nat.zero_le _) rfl
  unfold letterboxref21_Parse.f
  exact bnd (rsplit s 44 (by omega)) this
end Go.Proofs.Ytimnfkmjdnmdeaa.Chars
