/- A spec's text, as the program puts it. -/
import Derived.Test.YtbjbagocnnffaaaDoorSecL
import Derived.Test.YtbjbagocnnffaaaDoorDigits
import Derived.Test.YtbjbagocnnffaaaDoorPx8
set_option linter.unusedVariables false
set_option linter.unusedSimpArgs false
set_option linter.unusedSectionVars false
namespace Go.Proofs.YtbjbagocnnffaaaDoor.Sec
open Go.RowKit Go.Proofs.YtbjbagocnnffaaaDoor.P Go.Proofs.YtbjbagocnnffaaaDoorW.PrintWords Go.Proofs.YtbjbagocnnffaaaDoorW.PrintLast Go.Proofs.YtbjbagocnnffaaaDoor.Aids Go.Proofs.YtbjbagocnnffaaaDoor.Chars
/-! texts with something between -/
def joinL (z : Int) : List (List Int) → List Int
  | [] => []
  | [a] => a
  | a :: b :: l => a ++ z :: joinL z (b :: l)
theorem join_map (f : Int → UInt8) (z : Int) : ∀ L : List (List Int), Lib.join (L.map (List.map f)) [f z] = (joinL z L).map f
  | [] => rfl
  | [a] => by simp [Lib.join, joinL, List.intercalate]
  | a :: b :: l => by
    have ih := join_map f z (b :: l)
    unfold Lib.join at ih ⊢
    simp only [List.map_cons] at ih ⊢
    rw [joinL, List.map_append, List.map_cons, ← ih]
    simp [List.intercalate, List.intersperse]
theorem joinL_len (z : Int) (m : Nat) : ∀ L : List (List Int), (∀ a ∈ L, a.length ≤ m) → (joinL z L).length ≤ L.length * (m + 1)
  | [], _ => by simp [joinL]
  | [a], h => by have := h a (List.mem_cons_self ..); simp [joinL]; omega
  | a :: b :: l, h => by
    have ih := joinL_len z m (b :: l) (fun x hx => h x (List.mem_cons_of_mem _ hx))
    have h1 := h a (List.mem_cons_self ..)
    have e : (a :: b :: l).length * (m + 1) = (b :: l).length * (m + 1) + (m + 1) := by rw [List.length_cons (a := a), Nat.succ_mul]
    rw [joinL, e]
    simp only [List.length_append, List.length_cons (a := z)]
    omega
theorem joinL_byte {z : Int} (hz : 0 ≤ z ∧ z ≤ 255) : ∀ L : List (List Int), (∀ a ∈ L, byte a) → byte (joinL z L)
  | [], _ => byte_nil
  | [a], h => h a (List.mem_cons_self ..)
  | a :: b :: l, h => byte_append (h a (List.mem_cons_self ..)) (byte_cons hz (joinL_byte hz (b :: l) (fun x hx => h x (List.mem_cons_of_mem _ hx))))
theorem joined_ok (z : Int) (L : List (List Int)) (h1 : L.length ≤ 100000) (h2 : (joinL z L).length ≤ 100000000) : strings_Join.f (strs L) (strOfNums [z]) = some (strOfNums (joinL z L)) := by
  have e : Lib.join ((strs L).map (·.data.toList)) (strOfNums [z]).data.toList = (joinL z L).map fun n => UInt8.ofNat n.toNat := by
    rw [← join_map]
    unfold strs
    rw [List.map_map, strOfNums_data]
    rfl
  unfold strings_Join.f
  rw [if_pos ⟨by unfold strs; rw [List.length_map]; exact h1, by rw [e, List.length_map]; omega⟩]
  congr 1
  unfold sq_join
  rw [e]
  apply ByteArray.ext
  apply Array.ext'
  rw [strOfNums_data]
/-! a name's text, as the program has it -/
theorem patom_l0 {s : List Int} (hb : byte s) (hl : s.length ≤ 1000000) (d : Nat) : ∀ i : Nat, s.length - i ≤ d → i ≤ s.length → Ev (fun k => section_atom.l0 k (strOfNums s) (s.length : Int) (i : Int)) (decide (s ≠ []) && (s.drop i).all atm) := by
  have e0 : ((strOfNums s).toList != ([] : List UInt8)) = decide (s ≠ []) := by
    rw [Bool.eq_iff_iff, bne_iff_ne, decide_eq_true_iff]
    exact not_congr (str_toList_nil s)
  induction d with
  | zero =>
    intro i hd hi
    refine st (fun k => by rw [section_atom.l0]) ?_
    rw [e0, List.drop_eq_nil_of_le (by omega), List.all_nil, Bool.and_true]
    exact no (by omega) (fin rfl)
  | succ d ih =>
    intro i hd hi
    rcases Nat.lt_or_ge i s.length with hlt | hge
    · refine st (fun k => by rw [section_atom.l0]) ?_
      have e1 := wr1 (i := i) (by omega)
      have hx := hb _ (rd_mem s i hlt)
      have ha : chars_Atom.f (rd s (i : Int)) = some (atm (rd s (i : Int))) := of_bytes (p := fun c => chars_Atom.f c = some (atm c)) (by decide +kernel) hx
      rw [drop_rd s i hlt, List.all_cons]
      simp only [strOfNums_size, str_bt _ hb, e1, ha, Option.bind_some]
      clear e1
      refine yes (by omega) (yes (by omega) (yes (by omega) ?_))
      cases atm (rd s (i : Int)) with
      | true => exact yes rfl (ih (i + 1) (by omega) hlt)
      | false => exact no (by decide) (fin (by simp))
    · exact ih i (by omega) hi
theorem patom {s : List Int} (hb : byte s) (hl : s.length ≤ 1000000) : Ev (fun k => section_atom.f k (strOfNums s)) (decide (s ≠ []) && s.all atm) := by
  unfold section_atom.f
  rw [strOfNums_size]
  exact toE (patom_l0 hb hl s.length 0 (by omega) (by omega)) (by rw [List.drop_zero])
theorem pquoted_l0 {s : List Int} (hb : byte s) (hl : s.length ≤ 1000000) (d : Nat) : ∀ (i : Nat) (acc : List Int), s.length - i ≤ d → i ≤ s.length → acc.length ≤ 2 * i + 1 →
    Ev (fun k => params_Quoted.l0 k (strOfNums s) acc (s.length : Int) (i : Int)) (strOfNums (acc ++ (esc (s.drop i) ++ [34]))) := by
  have stop : ∀ (i : Nat) (acc : List Int), s.length ≤ i → i ≤ s.length → acc.length ≤ 2 * i + 1 → Ev (fun k => params_Quoted.l0 k (strOfNums s) acc (s.length : Int) (i : Int)) (strOfNums (acc ++ (esc (s.drop i) ++ [34]))) := by
    intro i acc h1 h2 ha
    refine st (fun k => by rw [params_Quoted.l0]) ?_
    rw [List.drop_eq_nil_of_le h1]
    exact no (by omega) (yes (by omega) (fin rfl))
  induction d with
  | zero => intro i acc hd hi ha; exact stop i acc (by omega) hi ha
  | succ d ih =>
    intro i acc hd hi ha
    rcases Nat.lt_or_ge i s.length with hlt | hge
    · have e1 := wr1 (i := i) (by omega)
      refine st (fun k => by rw [params_Quoted.l0]) ?_
      rw [drop_rd s i hlt]
      simp only [strOfNums_size, str_bt _ hb, e1, esc, Option.bind_some]
      clear e1
      refine yes (by omega) (yes (by omega) (yes (by omega) ?_))
      by_cases h1 : rd s (i : Int) = 34
      · rw [if_pos (.inl h1)]
        refine yes h1 (yes (by omega) (yes (by simp; omega) (toE (ih (i + 1) _ (by omega) hlt (by simp; omega)) ?_)))
        congr 1; simp
      · refine no h1 ?_
        by_cases h2 : rd s (i : Int) = 92
        · rw [if_pos (.inr h2)]
          refine yes h2 (yes (by omega) (yes (by simp; omega) (toE (ih (i + 1) _ (by omega) hlt (by simp; omega)) ?_)))
          congr 1; simp
        · rw [if_neg (fun e => e.elim h1 h2)]
          refine no h2 (yes (by omega) (toE (ih (i + 1) _ (by omega) hlt (by simp; omega)) ?_))
          congr 1; simp
    · exact stop i acc hge hi ha
theorem pquoted {s : List Int} (hb : byte s) (hl : s.length ≤ 1000000) : Ev (fun k => params_Quoted.f k (strOfNums s)) (strOfNums (34 :: (esc s ++ [34]))) := by
  unfold params_Quoted.f
  rw [strOfNums_size]
  exact pquoted_l0 hb hl s.length 0 [34] (by omega) (by omega) (by simp)
theorem nameT_byte {s : List Int} (hb : byte s) : byte (nameT s) := by
  unfold nameT; split
  · exact hb
  · exact byte_cons (by omega) (byte_append (esc_byte hb) (byte_one (by omega) (by omega)))
theorem nameT_len (s : List Int) : (nameT s).length ≤ 2 * s.length + 2 := by
  unfold nameT; split
  · omega
  · have := esc_len s; simp; omega
/-! the text -/
def cutT (x : Sp) (ans : Bool) : List Int := if x.cut = true then 60 :: (digits x.fr ++ ((if ans = true then [] else 46 :: digits x.mn) ++ [62])) else []
def pathT (x : Sp) : List Int := joinL 46 (x.p.map digits ++ (if x.q = 0 then [] else [wordL x.q.toNat]))
def namesT (x : Sp) : List Int := if listed x.q = true then 32 :: 40 :: (joinL 32 (x.nm.map nameT) ++ [41]) else []
def putL (x : Sp) (ans : Bool) : List Int := 91 :: (pathT x ++ namesT x ++ 93 :: cutT x ans)
theorem cutT_len (x : Sp) (ans : Bool) : (cutT x ans).length ≤ 45 := by
  have h1 := digits_len x.fr
  have h2 := digits_len x.mn
  unfold cutT
  split
  · cases ans <;> simp <;> omega
  · simp
theorem cutT_byte (x : Sp) (ans : Bool) : byte (cutT x ans) := by
  unfold cutT
  split
  · refine byte_cons (by omega) (byte_append (digits_byte _) (byte_append ?_ (byte_one (by omega) (by omega))))
    cases ans
    · exact byte_cons (by omega) (digits_byte _)
    · exact byte_nil
  · exact byte_nil
section
variable (x : Sp) (hb : ∀ n ∈ x.nm, byte n) (hn : ∀ n ∈ x.nm, n.length ≤ 1000) (h1 : x.p.length ≤ 64) (h2 : x.nm.length ≤ 100) (hp : ∀ n ∈ x.p, 0 ≤ n ∧ n ≤ 4294967295) (hq : 0 ≤ x.q ∧ x.q ≤ 5) (hc : 0 ≤ x.fr ∧ x.fr ≤ 4294967295 ∧ 0 ≤ x.mn ∧ x.mn ≤ 4294967295)
include hb hn h1 h2 hp hq hc
theorem put_j3 (ans : Bool) {s : List Int} (hs : s.length ≤ 10000000) : Ev (fun k => section_Put.j3 k ans (strOfNums s) x.p x.q (strs x.nm) x.cut x.fr x.mn) (strOfNums (s ++ 93 :: cutT x ans)) := by
  refine st (fun k => by rw [section_Put.j3]) ?_
  have l1 := digits_len x.fr
  have l2 := digits_len x.mn
  simp only [show (⟨#[93]⟩ : ByteArray) = strOfNums [93] from rfl, show (⟨#[60]⟩ : ByteArray) = strOfNums [60] from rfl, show (⟨#[62]⟩ : ByteArray) = strOfNums [62] from rfl, show (⟨#[46]⟩ : ByteArray) = strOfNums [46] from rfl, str_append, strOfNums_size]
  refine yes (by omega) ?_
  unfold cutT
  cases hcut : x.cut with
  | true =>
    rw [if_pos rfl]
    refine yes rfl (bnd (digitsS x.fr (by omega) (by omega)) ?_)
    simp only [str_append, strOfNums_size]
    refine yes (by omega) (yes (by simp; omega) ?_)
    cases ans with
    | true =>
      refine yes rfl (yes (by simp; omega) (fin ?_))
      congr 1; simp
    | false =>
      refine no (by decide) (bnd (digitsS x.mn (by omega) (by omega)) ?_)
      simp only [str_append, strOfNums_size]
      refine yes (by omega) (yes (by simp; omega) (yes (by simp; omega) (fin ?_)))
      congr 1; simp
  | false =>
    rw [if_neg (by decide)]
    exact no (by decide) (fin rfl)
theorem put_l1 (ans : Bool) {s : List Int} (hs : s.length ≤ 1000000) (hls : listed x.q = true) (d : Nat) : ∀ i : Nat, x.nm.length - i ≤ d → i ≤ x.nm.length →
    Ev (fun k => section_Put.l1 k ans (strOfNums s) (strs ((x.nm.take i).map nameT)) (strs x.nm) (x.nm.length : Int) (i : Int) x.p x.q (strs x.nm) x.cut x.fr x.mn) (strOfNums (s ++ namesT x ++ 93 :: cutT x ans)) := by
  have hlen : (strs x.nm).length = x.nm.length := by unfold strs; rw [List.length_map]
  induction d with
  | zero =>
    intro i hd hi
    have e : i = x.nm.length := by omega
    subst e
    refine st (fun k => by rw [section_Put.l1]) ?_
    have hjl : (joinL 32 (x.nm.map nameT)).length ≤ 300000 := by
      have := joinL_len 32 2002 (x.nm.map nameT) (fun a ha => by
        obtain ⟨n, hm, rfl⟩ := List.mem_map.1 ha
        have h3 := nameT_len n
        have h4 := hn n hm
        omega)
      rw [List.length_map] at this
      have h6 : x.nm.length * 2003 ≤ 100 * 2003 := Nat.mul_le_mul_right _ h2
      omega
    have hj := joined_ok 32 (x.nm.map nameT) (by rw [List.length_map]; omega) (by omega)
    rw [List.take_length, show (⟨#[32]⟩ : ByteArray) = strOfNums [32] from rfl, show (⟨#[32, 40]⟩ : ByteArray) = strOfNums [32, 40] from rfl, show (⟨#[41]⟩ : ByteArray) = strOfNums [41] from rfl]
    simp only [hj, Option.bind_some, str_append, strOfNums_size]
    refine no (by omega) (yes (by omega) (yes (by simp; omega) (yes (by simp; omega) ?_)))
    refine toE (put_j3 x hb hn h1 h2 hp hq hc ans (by simp; omega)) ?_
    unfold namesT
    rw [if_pos hls]
    congr 1
    first | done | simp
  | succ d ih =>
    intro i hd hi
    rcases Nat.lt_or_ge i x.nm.length with hlt | hge
    · refine st (fun k => by rw [section_Put.l1]) ?_
      have c1 : (i : Int) < (x.nm.length : Int) := by omega
      have c2 : (0 : Int) ≤ (i : Int) := by omega
      have h8 : i < 8796093022208 := by omega
      have c3 : x.nm.length - (i + 1) ≤ d := by omega
      have c9 : i ≤ 1000000 := by omega
      have hbi := hb _ (List.getElem_mem hlt)
      have hni : x.nm[i].length ≤ 1000000 := Nat.le_trans (hn _ (List.getElem_mem hlt)) (by decide)
      have e2 : ∀ T : List Int, T = nameT x.nm[i] → strs ((x.nm.take i).map nameT) ++ [strOfNums T] = strs ((x.nm.take (i + 1)).map nameT) := by
        intro T hT
        rw [List.take_succ_eq_append_getElem hlt, List.map_append, hT]
        unfold strs
        rw [List.map_append]; rfl
      have el : (strs ((x.nm.take i).map nameT)).length = i := by unfold strs; rw [List.length_map, List.length_map, List.length_take]; omega
      have e1 := wr1 (i := i) c9
      simp only [strs_at _ i hlt, e1, hlen, el]
      clear e1
      refine yes c1 (yes c2 (yes c1 (bnd (patom hbi hni) ?_)))
      by_cases ha : (decide (x.nm[i] ≠ []) && x.nm[i].all atm) = true
      · have h' := Bool.and_eq_true_iff.1 ha
        have hT : x.nm[i] = nameT x.nm[i] := (if_pos ⟨of_decide_eq_true h'.1, h'.2⟩).symm
        refine yes ha (yes h8 ?_)
        rw [e2 x.nm[i] hT]
        exact ih (i + 1) c3 hlt
      · have hT : 34 :: (esc x.nm[i] ++ [34]) = nameT x.nm[i] := (if_neg (fun h => ha (Bool.and_eq_true_iff.2 ⟨decide_eq_true h.1, h.2⟩))).symm
        refine no ha (bnd (pquoted hbi hni) (yes h8 ?_))
        rw [e2 _ hT]
        exact ih (i + 1) c3 hlt
    · exact ih i (by omega) hi
theorem path_len : (pathT x).length ≤ 3000 := by
  unfold pathT
  have := joinL_len 46 30 (x.p.map digits ++ (if x.q = 0 then [] else [wordL x.q.toNat])) (fun a ha => by
    rcases List.mem_append.1 ha with ha | ha
    · obtain ⟨n, _, rfl⟩ := List.mem_map.1 ha
      have := digits_len n; omega
    · split at ha
      · cases ha
      · rw [List.mem_singleton.1 ha]
        have all : ∀ y : Fin 6, (wordL y.val).length ≤ 30 := by decide
        exact all ⟨x.q.toNat, by omega⟩)
  have h3 : (x.p.map digits ++ (if x.q = 0 then [] else [wordL x.q.toNat])).length ≤ 65 := by
    rw [List.length_append, List.length_map]; split <;> simp <;> omega
  have h4 : (x.p.map digits ++ (if x.q = 0 then [] else [wordL x.q.toNat])).length * 31 ≤ 65 * 31 := Nat.mul_le_mul_right _ h3
  omega
theorem put_j1 (ans : Bool) : Ev (fun k => section_Put.j1 k ans (strs (x.p.map digits ++ (if x.q = 0 then [] else [wordL x.q.toNat]))) x.p x.q (strs x.nm) x.cut x.fr x.mn) (strOfNums (putL x ans)) := by
  refine st (fun k => by rw [section_Put.j1]) ?_
  have hpl := path_len x hb hn h1 h2 hp hq hc
  have h3 : (x.p.map digits ++ (if x.q = 0 then [] else [wordL x.q.toNat])).length ≤ 65 := by
    rw [List.length_append, List.length_map]; split <;> simp <;> omega
  have hj := joined_ok 46 (x.p.map digits ++ (if x.q = 0 then [] else [wordL x.q.toNat])) (by omega) (by unfold pathT at hpl; omega)
  have hlen : (strs x.nm).length = x.nm.length := by unfold strs; rw [List.length_map]
  rw [show (⟨#[46]⟩ : ByteArray) = strOfNums [46] from rfl, show (⟨#[91]⟩ : ByteArray) = strOfNums [91] from rfl]
  simp only [hj, Option.bind_some, listed_ok, str_append, strOfNums_size, hlen]
  have e0 : joinL 46 (x.p.map digits ++ (if x.q = 0 then [] else [wordL x.q.toNat])) = pathT x := rfl
  rw [e0]
  refine yes (by omega) ?_
  unfold putL
  cases hls : listed x.q with
  | true =>
    refine yes rfl (toE (put_l1 x hb hn h1 h2 hp hq hc ans (s := [91] ++ pathT x) (by simp; omega) hls x.nm.length 0 (by omega) (by omega)) ?_)
    rfl
  | false =>
    refine no (by decide) (toE (put_j3 x hb hn h1 h2 hp hq hc ans (s := [91] ++ pathT x) (by simp; omega)) ?_)
    unfold namesT
    rw [hls, if_neg (by decide), List.append_nil]; rfl
theorem put_l0 (ans : Bool) (d : Nat) : ∀ i : Nat, x.p.length - i ≤ d → i ≤ x.p.length → Ev (fun k => section_Put.l0 k ans (strs ((x.p.take i).map digits)) x.p (x.p.length : Int) (i : Int) x.p x.q (strs x.nm) x.cut x.fr x.mn) (strOfNums (putL x ans)) := by
  have stop : ∀ i : Nat, x.p.length = i → Ev (fun k => section_Put.l0 k ans (strs ((x.p.take i).map digits)) x.p (x.p.length : Int) (i : Int) x.p x.q (strs x.nm) x.cut x.fr x.mn) (strOfNums (putL x ans)) := by
    intro i hi
    subst hi
    refine st (fun k => by rw [section_Put.l0]) ?_
    rw [List.take_length]
    have hj := put_j1 x hb hn h1 h2 hp hq hc ans
    have el : (strs (x.p.map digits)).length = x.p.length := by unfold strs; rw [List.length_map, List.length_map]
    refine no (by omega) ?_
    by_cases h : x.q = 0
    · rw [if_pos h, List.append_nil] at hj
      exact yes h hj
    · rw [if_neg h] at hj
      refine no h (yes hq.1 (yes (by omega) (yes (by omega) ?_)))
      have e : sec_word x.q = strOfNums (wordL x.q.toNat) := by
        have := (word_is ⟨x.q.toNat, by omega⟩).1
        simp only at this
        rwa [Int.toNat_of_nonneg hq.1] at this
      rw [e]
      unfold strs at hj ⊢
      rw [List.map_append] at hj
      exact hj
  induction d with
  | zero => intro i hd hi; exact stop i (by omega)
  | succ d ih =>
    intro i hd hi
    rcases Nat.lt_or_ge i x.p.length with hlt | hge
    · refine st (fun k => by rw [section_Put.l0]) ?_
      have e1 := wr1 (i := i) (by omega)
      have hm := hp _ (rd_mem x.p i hlt)
      have e2 : strs ((x.p.take i).map digits) ++ [strOfNums (digits (rd x.p (i : Int)))] = strs ((x.p.take (i + 1)).map digits) := by
        rw [List.take_succ_eq_append_getElem hlt, List.map_append, rd_at x.p i hlt]
        unfold strs
        rw [List.map_append]; rfl
      have el : (strs ((x.p.take i).map digits)).length = i := by unfold strs; rw [List.length_map, List.length_map, List.length_take]; omega
      simp only [e1]
      clear e1
      refine yes (by omega) (yes (by omega) (yes (by omega) (bnd (digitsS _ (by omega) (by omega)) (yes (by omega) ?_))))
      rw [e2]
      exact ih (i + 1) (by omega) hlt
    · exact stop i (by omega)
end
theorem may_parts {x : Sp} (hm : may x = true) : x.p.length ≤ 64 ∧ x.nm.length ≤ 100 ∧ (∀ n ∈ x.p, 1 ≤ n ∧ n ≤ 4294967295) ∧ (0 ≤ x.q ∧ x.q ≤ 5) ∧ (0 ≤ x.fr ∧ x.fr ≤ 4294967295 ∧ 0 ≤ x.mn ∧ x.mn ≤ 4294967295) := by
  rw [may_is] at hm
  unfold headB cutB within at hm
  simp only [Bool.and_eq_true, decide_eq_true_eq, List.all_eq_true] at hm
  obtain ⟨⟨⟨⟨⟨a1, a2⟩, a3⟩, a4⟩, a5⟩, a6, a7, a8⟩ := hm
  refine ⟨a1, ?_, a6, ⟨a2, a3⟩, ?_⟩
  · split at a5
    · simp only [Bool.and_eq_true, decide_eq_true_eq] at a5; exact a5.2
    · simp only [decide_eq_true_eq] at a5; omega
  · split at a8
    · simp only [Bool.and_eq_true, decide_eq_true_eq] at a8; omega
    · simp only [Bool.and_eq_true, decide_eq_true_eq] at a8; omega
theorem put_ok (x : Sp) (hb : ∀ n ∈ x.nm, byte n) (hn : ∀ n ∈ x.nm, n.length ≤ 1000) (h1 : x.p.length ≤ 1000000) (h2 : x.nm.length ≤ 1000000) (ans : Bool) :
    Ev (fun k => section_Put.f k x.p x.q (strs x.nm) x.cut x.fr x.mn ans) (strOfNums (if may x = true then putL x ans else [])) := by
  unfold section_Put.f
  refine bnd (check_ok x hb (fun n hm => by have := hn n hm; omega) h1 h2) ?_
  by_cases hm : may x = true
  · rw [if_pos hm, if_pos hm]
    obtain ⟨m1, m2, m3, m4, m5⟩ := may_parts hm
    refine yes rfl ?_
    exact put_l0 x hb hn m1 m2 (fun n h => by have := m3 n h; omega) m4 m5 ans x.p.length 0 (by omega) (by omega)
  · rw [if_neg hm, if_neg hm]
    exact no (by decide) (fin rfl)
end Go.Proofs.YtbjbagocnnffaaaDoor.Sec
