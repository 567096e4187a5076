/- A spec's text as the document puts it, and that it is a text of just that spec. -/
import Derived.Test.YtbjbagocnnffaaaDoorSecP
import Derived.Test.YtbjbagocnnffaaaDoorSec12
set_option linter.unusedVariables false
set_option linter.unusedSimpArgs false
set_option linter.unusedSectionVars false
namespace Go.Proofs.YtbjbagocnnffaaaDoor.Sec
open Go.RowKit Go.Proofs.YtbjbagocnnffaaaDoor.P Go.Proofs.YtbjbagocnnffaaaDoorW.PrintWords Go.Proofs.YtbjbagocnnffaaaDoorW.PrintLast Go.Proofs.YtbjbagocnnffaaaDoor.Aids Go.Proofs.YtbjbagocnnffaaaDoor.Chars
theorem joinL_snoc (z : Int) (a : List Int) : ∀ L : List (List Int), joinL z (L ++ [a]) = if L = [] then a else joinL z L ++ z :: a
  | [] => rfl
  | [b] => rfl
  | b :: c :: l => by
    have ih := joinL_snoc z a (c :: l)
    rw [if_neg (by simp)] at ih
    rw [if_neg (by simp)]
    show b ++ z :: joinL z ((c :: l) ++ [a]) = (b ++ z :: joinL z (c :: l)) ++ z :: a
    rw [ih]
    simp
theorem joinL_more (z : Int) (L : List (List Int)) (a : List Int) (hL : L ≠ []) : joinL z (L ++ [a]) = joinL z L ++ z :: a := by rw [joinL_snoc, if_neg hL]
theorem wordS : ∀ q : Int, 0 ≤ q ∧ q ≤ 5 → letterboxref15_word.f q = some (strOfNums (wordL q.toNat)) := by
  intro q h
  have := rword q.toNat (by omega)
  rwa [Int.toNat_of_nonneg h.1] at this
theorem word_len (q : Int) (h : 0 ≤ q ∧ q ≤ 5) : (wordL q.toNat).length ≤ 30 := by
  have all : ∀ y : Fin 6, (wordL y.val).length ≤ 30 := by decide
  exact all ⟨q.toNat, by omega⟩
section
variable (x : Sp) (hb : ∀ n ∈ x.nm, byte n) (hn : ∀ n ∈ x.nm, n.length ≤ 1000) (h1 : x.p.length ≤ 64) (h2 : x.nm.length ≤ 100) (hp : ∀ n ∈ x.p, 0 ≤ n ∧ n ≤ 4294967295) (hq : 0 ≤ x.q ∧ x.q ≤ 5) (hc : 0 ≤ x.fr ∧ x.fr ≤ 4294967295 ∧ 0 ≤ x.mn ∧ x.mn ≤ 4294967295) (hli : listed x.q = true ↔ x.nm ≠ [])
include hb hn h1 h2 hp hq hc hli
theorem rput_j4 (ans : Bool) {s : List Int} (hs : s.length ≤ 10000000) : Ev (fun k => letterboxref15_Put.j4 k ans (strOfNums s) x.p x.q (strs x.nm) x.cut x.fr x.mn) (strOfNums (s ++ 93 :: cutT x ans)) := by
  refine st (fun k => by rw [letterboxref15_Put.j4]) ?_
  have l1 := digits_len x.fr
  have l2 := digits_len x.mn
  simp only [show (⟨#[93]⟩ : ByteArray) = strOfNums [93] from rfl, show (⟨#[60]⟩ : ByteArray) = strOfNums [60] from rfl, show (⟨#[62]⟩ : ByteArray) = strOfNums [62] from rfl, show (⟨#[46]⟩ : ByteArray) = strOfNums [46] from rfl, str_append, strOfNums_size]
  refine yes (by omega) ?_
  unfold cutT
  cases hcut : x.cut with
  | true =>
    rw [if_pos rfl]
    refine yes rfl (bnd (rdigitsS x.fr (by omega) (by omega)) ?_)
    simp only [str_append, strOfNums_size]
    refine yes (by omega) (yes (by simp; omega) ?_)
    cases ans with
    | true =>
      refine yes rfl (yes (by simp; omega) (fin ?_))
      congr 1; simp
    | false =>
      refine no (by decide) (bnd (rdigitsS x.mn (by omega) (by omega)) ?_)
      simp only [str_append, strOfNums_size]
      refine yes (by omega) (yes (by simp; omega) (yes (by simp; omega) (fin ?_)))
      congr 1; simp
  | false =>
    rw [if_neg (by decide)]
    exact no (by decide) (fin rfl)
/-- the names so far -/
def nmT (x : Sp) (i : Nat) : List Int := if i = 0 then [] else 32 :: 40 :: joinL 32 ((x.nm.take i).map nameT)
theorem nmT_len (i : Nat) (hi : i ≤ x.nm.length) : (nmT x i).length ≤ 300000 := by
  unfold nmT
  split
  · simp
  · have := joinL_len 32 2002 ((x.nm.take i).map nameT) (fun a ha => by
      obtain ⟨n, hm, rfl⟩ := List.mem_map.1 ha
      have := nameT_len n
      have := hn n (List.mem_of_mem_take hm)
      omega)
    rw [List.length_map, List.length_take] at this
    have h3 : min i x.nm.length * 2003 ≤ 100 * 2003 := Nat.mul_le_mul_right _ (by omega)
    simp only [List.length_cons]
    omega
theorem rput_l1 (ans : Bool) {s : List Int} (hs : s.length ≤ 1000000) (d : Nat) : ∀ i : Nat, x.nm.length - i ≤ d → i ≤ x.nm.length →
    Ev (fun k => letterboxref15_Put.l1 k ans (strOfNums (s ++ nmT x i)) (i : Int) x.p x.q (strs x.nm) x.cut x.fr x.mn) (strOfNums (s ++ namesT x ++ 93 :: cutT x ans)) := by
  have hlen : (strs x.nm).length = x.nm.length := by unfold strs; rw [List.length_map]
  have stop : ∀ i : Nat, x.nm.length = i → Ev (fun k => letterboxref15_Put.l1 k ans (strOfNums (s ++ nmT x i)) (i : Int) x.p x.q (strs x.nm) x.cut x.fr x.mn) (strOfNums (s ++ namesT x ++ 93 :: cutT x ans)) := by
    intro i hi
    subst hi
    have hnl := nmT_len x hb hn h1 h2 hp hq hc hli x.nm.length (Nat.le_refl _)
    refine st (fun k => by rw [letterboxref15_Put.l1]) ?_
    simp only [hlen, show (⟨#[41]⟩ : ByteArray) = strOfNums [41] from rfl, str_append, strOfNums_size]
    refine no (by omega) ?_
    by_cases h : x.nm = []
    · have hl : listed x.q = false := by
        cases hlx : listed x.q with
        | false => rfl
        | true => exact absurd h (hli.1 hlx)
      have h0 : x.nm.length = 0 := by rw [h]; rfl
      have e1 : nmT x x.nm.length = [] := if_pos h0
      have e2 : namesT x = [] := by unfold namesT; rw [hl]; rfl
      refine no (by omega) ?_
      rw [e1, e2]
      exact rput_j4 x hb hn h1 h2 hp hq hc hli ans (s := s ++ []) (by simp; omega)
    · have hpos : 0 < x.nm.length := List.length_pos_iff.2 h
      have e1 : nmT x x.nm.length ++ [41] = namesT x := by
        unfold nmT namesT
        rw [if_neg (by omega), if_pos (hli.2 h), List.take_length]
        simp
      refine yes (by omega) ?_
      refine yes (by simp only [List.length_append]; omega) ?_
      rw [List.append_assoc, e1]
      refine rput_j4 x hb hn h1 h2 hp hq hc hli ans (s := s ++ namesT x) ?_
      rw [← e1]
      simp only [List.length_append, List.length_cons, List.length_nil]
      omega
  induction d with
  | zero => intro i hd hi; exact stop i (by omega)
  | succ d ih =>
    intro i hd hi
    rcases Nat.lt_or_ge i x.nm.length with hlt | hge
    · have e1 := Aside0.mk (wr1 (i := i) (by omega))
      have hm : rdOf ByteArray.empty (strs x.nm) (i : Int) = strOfNums x.nm[i] := by
        unfold rdOf strs
        rw [Int.toNat_natCast, List.getD_eq_getElem?_getD, List.getElem?_map, List.getElem?_eq_getElem hlt]
        rfl
      have hbi := hb _ (List.getElem_mem hlt)
      have hni := hn _ (List.getElem_mem hlt)
      have hnl := nmT_len x hb hn h1 h2 hp hq hc hli i (by omega)
      have hnT := nameT_len x.nm[i]
      have hstep : nmT x (i + 1) = (if i = 0 then [32, 40] else nmT x i ++ [32]) ++ nameT x.nm[i] := by
        unfold nmT
        rw [if_neg (by omega), List.take_succ_eq_append_getElem hlt, List.map_append]
        by_cases h : i = 0
        · rw [if_pos h]
          subst h
          rfl
        · rw [if_neg h, if_neg h]
          show 32 :: 40 :: joinL 32 ((x.nm.take i).map nameT ++ [nameT x.nm[i]]) = _
          rw [joinL_more _ _ _ (by
            intro e
            have := congrArg List.length e
            rw [List.length_map, List.length_take, List.length_nil] at this
            omega)]
          simp
      refine st (fun k => by rw [letterboxref15_Put.l1]) ?_
      rw [e1.out, hm]
      simp only [hlen, show (⟨#[32]⟩ : ByteArray) = strOfNums [32] from rfl, show (⟨#[32, 40]⟩ : ByteArray) = strOfNums [32, 40] from rfl, str_append, strOfNums_size]
      refine yes (by omega) ?_
      have hi2 := ih (i + 1) (by omega) hlt
      rw [hstep] at hi2
      by_cases h : i = 0
      · rw [if_pos h] at hi2
        have e0 : nmT x i = [] := if_pos h
        rw [e0, List.append_nil]
        refine yes (by omega) ?_
        refine yes (by omega) ?_
        refine yes (by omega) ?_
        refine bnd (rname_ok hbi (by omega)) ?_
        simp only [str_append, strOfNums_size]
        refine yes (by simp only [List.length_append, List.length_cons, List.length_nil]; omega) ?_
        rw [List.append_assoc]
        exact hi2
      · rw [if_neg h] at hi2
        refine no (by omega) ?_
        refine yes (by simp only [List.length_append]; omega) ?_
        refine yes (by omega) ?_
        refine bnd (rname_ok hbi (by omega)) ?_
        simp only [str_append, strOfNums_size]
        refine yes (by simp only [List.length_append, List.length_cons, List.length_nil]; omega) ?_
        rw [List.append_assoc s, List.append_assoc s]
        exact hi2
    · exact stop i (by omega)
/-- the numbers so far -/
def pT (x : Sp) (i : Nat) : List Int := joinL 46 ((x.p.take i).map digits)
theorem pT_len (i : Nat) : (pT x i).length ≤ 2000 := by
  unfold pT
  have := joinL_len 46 21 ((x.p.take i).map digits) (fun a ha => by
    obtain ⟨n, _, rfl⟩ := List.mem_map.1 ha
    exact digits_len n)
  rw [List.length_map, List.length_take] at this
  have h3 : min i x.p.length * 22 ≤ 64 * 22 := Nat.mul_le_mul_right _ (by omega)
  omega
theorem rput_j2 (ans : Bool) {s : List Int} (hs : s.length ≤ 10000) : Ev (fun k => letterboxref15_Put.j2 k ans (strOfNums s) x.p x.q (strs x.nm) x.cut x.fr x.mn) (strOfNums (s ++ wordL x.q.toNat ++ namesT x ++ 93 :: cutT x ans)) := by
  have hwl := word_len x.q hq
  refine st (fun k => by rw [letterboxref15_Put.j2]) ?_
  rw [wordS x.q hq]
  refine bs ?_
  simp only [str_append, strOfNums_size]
  refine yes (by omega) ?_
  have := rput_l1 x hb hn h1 h2 hp hq hc hli ans (s := s ++ wordL x.q.toNat) (by simp only [List.length_append]; omega) x.nm.length 0 (by omega) (by omega)
  have e0 : nmT x 0 = [] := rfl
  rw [e0, List.append_nil] at this
  exact this
theorem path_is : pathT x = (if x.p ≠ [] ∧ x.q ≠ 0 then joinL 46 (x.p.map digits) ++ [46] else joinL 46 (x.p.map digits)) ++ wordL x.q.toNat := by
  unfold pathT
  by_cases h0 : x.q = 0
  · rw [if_pos h0, if_neg (fun h => h.2 h0), h0, List.append_nil]
    show _ = _ ++ []
    rw [List.append_nil]
  · rw [if_neg h0]
    by_cases hp0 : x.p = []
    · rw [if_neg (fun h => h.1 hp0), hp0]
      rfl
    · rw [if_pos ⟨hp0, h0⟩, joinL_more _ _ _ (by
        intro e
        exact hp0 (List.map_eq_nil_iff.1 e))]
      simp
theorem rput_j1 (ans : Bool) (dot : Bool) (hd : dot = true ↔ (x.p ≠ [] ∧ x.q ≠ 0)) : Ev (fun k => letterboxref15_Put.j1 k ans (strOfNums (91 :: pT x x.p.length)) dot x.p x.q (strs x.nm) x.cut x.fr x.mn) (strOfNums (putL x ans)) := by
  have hpl := pT_len x hb hn h1 h2 hp hq hc hli x.p.length
  have hpT : pT x x.p.length = joinL 46 (x.p.map digits) := by unfold pT; rw [List.take_length]
  refine st (fun k => by rw [letterboxref15_Put.j1]) ?_
  simp only [show (⟨#[46]⟩ : ByteArray) = strOfNums [46] from rfl, str_append, strOfNums_size]
  unfold putL
  rw [path_is x hb hn h1 h2 hp hq hc hli]
  cases dot with
  | true =>
    rw [if_pos (hd.1 rfl), ← hpT]
    refine yes rfl ?_
    refine yes (by simp only [List.length_cons]; omega) ?_
    refine toE (rput_j2 x hb hn h1 h2 hp hq hc hli ans (s := 91 :: pT x x.p.length ++ [46]) (by simp only [List.length_append, List.length_cons, List.length_nil]; omega)) ?_
    congr 1
  | false =>
    rw [if_neg (fun h => Bool.false_ne_true (hd.2 h)), ← hpT]
    refine no (by decide) ?_
    refine toE (rput_j2 x hb hn h1 h2 hp hq hc hli ans (s := 91 :: pT x x.p.length) (by simp only [List.length_cons]; omega)) ?_
    congr 1
theorem rput_l0 (ans : Bool) (d : Nat) : ∀ i : Nat, x.p.length - i ≤ d → i ≤ x.p.length → Ev (fun k => letterboxref15_Put.l0 k ans (strOfNums (91 :: pT x i)) (i : Int) x.p x.q (strs x.nm) x.cut x.fr x.mn) (strOfNums (putL x ans)) := by
  have stop : ∀ i : Nat, x.p.length = i → Ev (fun k => letterboxref15_Put.l0 k ans (strOfNums (91 :: pT x i)) (i : Int) x.p x.q (strs x.nm) x.cut x.fr x.mn) (strOfNums (putL x ans)) := by
    intro i hi
    subst hi
    refine st (fun k => by rw [letterboxref15_Put.l0]) ?_
    refine no (by omega) ?_
    by_cases h : x.p = []
    · refine no (by rw [h]; decide) ?_
      exact rput_j1 x hb hn h1 h2 hp hq hc hli ans false (Iff.intro (fun e => by cases e) (fun e => absurd h e.1))
    · have hpos : 0 < x.p.length := List.length_pos_iff.2 h
      refine yes (by omega) ?_
      refine rput_j1 x hb hn h1 h2 hp hq hc hli ans (x.q != 0) ⟨fun e => ⟨h, bne_iff_ne.1 e⟩, fun e => bne_iff_ne.2 e.2⟩
  induction d with
  | zero => intro i hd hi; exact stop i (by omega)
  | succ d ih =>
    intro i hd hi
    rcases Nat.lt_or_ge i x.p.length with hlt | hge
    · have e1 := Aside0.mk (wr1 (i := i) (by omega))
      have hm := hp _ (rd_mem x.p i hlt)
      have hdl := digits_len (rd x.p (i : Int))
      have hpl := pT_len x hb hn h1 h2 hp hq hc hli i
      have hstep : pT x (i + 1) = (if i = 0 then [] else pT x i ++ [46]) ++ digits (rd x.p (i : Int)) := by
        unfold pT
        rw [List.take_succ_eq_append_getElem hlt, List.map_append, rd_at x.p i hlt]
        show joinL 46 ((x.p.take i).map digits ++ [digits x.p[i]]) = _
        rw [joinL_snoc]
        by_cases h : i = 0
        · subst h; rfl
        · rw [if_neg h, if_neg (by
            intro e
            have := congrArg List.length e
            rw [List.length_map, List.length_take, List.length_nil] at this
            omega)]
          simp
      refine st (fun k => by rw [letterboxref15_Put.l0]) ?_
      rw [e1.out]
      simp only [show (⟨#[46]⟩ : ByteArray) = strOfNums [46] from rfl, str_append, strOfNums_size]
      refine yes (by omega) ?_
      have hi2 := ih (i + 1) (by omega) hlt
      rw [hstep] at hi2
      by_cases h : i = 0
      · rw [if_pos h, List.nil_append] at hi2
        have e0 : pT x i = [] := by rw [h]; rfl
        rw [e0]
        refine no (by omega) ?_
        refine yes (by omega) ?_
        refine bnd (rdigitsS _ (by omega) (by omega)) ?_
        simp only [str_append, strOfNums_size]
        refine yes (by simp only [List.length_cons, List.length_nil]; omega) ?_
        exact hi2
      · rw [if_neg h] at hi2
        refine yes (by omega) ?_
        refine yes (by simp only [List.length_cons]; omega) ?_
        refine yes (by omega) ?_
        refine bnd (rdigitsS _ (by omega) (by omega)) ?_
        simp only [str_append, strOfNums_size]
        refine yes (by simp only [List.length_append, List.length_cons, List.length_nil]; omega) ?_
        refine toE hi2 ?_
        congr 1
    · exact stop i (by omega)
end
theorem may_listed {x : Sp} (hm : may x = true) : listed x.q = true ↔ x.nm ≠ [] := by
  rw [may_is] at hm
  unfold headB at hm
  simp only [Bool.and_eq_true, decide_eq_true_eq] at hm
  have h := hm.1.2
  constructor
  · intro hl e
    rw [if_pos hl] at h
    simp only [Bool.and_eq_true, decide_eq_true_eq] at h
    rw [e] at h
    exact absurd h.1 (by decide)
  · intro hne
    cases hl : listed x.q with
    | true => rfl
    | false =>
      rw [hl, if_neg (by decide)] at h
      simp only [decide_eq_true_eq] at h
      exact absurd (List.length_eq_zero_iff.1 h) hne
theorem rput_ok (x : Sp) (hb : ∀ n ∈ x.nm, byte n) (hn : ∀ n ∈ x.nm, n.length ≤ 1000) (h1 : x.p.length ≤ 1000000) (h2 : x.nm.length ≤ 1000000) (ans : Bool) :
    Ev (fun k => letterboxref15_Put.f k x.p x.q (strs x.nm) x.cut x.fr x.mn ans) (strOfNums (if may x = true then putL x ans else [])) := by
  unfold letterboxref15_Put.f
  refine bnd (rcheck_ok x hb (fun n hm => by have := hn n hm; omega) h1 h2) ?_
  by_cases hm : may x = true
  · rw [if_pos hm, if_pos hm]
    obtain ⟨m1, m2, m3, m4, m5⟩ := may_parts hm
    refine yes rfl ?_
    exact rput_l0 x hb hn m1 m2 (fun n h => by have := m3 n h; omega) m4 m5 (may_listed hm) ans x.p.length 0 (by omega) (by omega)
  · rw [if_neg hm, if_neg hm]
    exact no (by decide) (fin rfl)
/-! a spec's text is a text of just that spec -/
theorem number_of {n : Int} (h : 0 ≤ n ∧ n ≤ 4294967295) : number (digits n) = (n, true) := by rw [number_digits n (by omega) (by omega), if_pos h]
theorem digits_ok (n : Int) (h : 0 ≤ n ∧ n ≤ 4294967295) : (∀ c ∈ digits n, dig c = true) ∧ digits n ≠ [] := by
  have := number_of h
  exact ⟨number_dig (by rw [this]), number_some (by rw [this])⟩
theorem put_CP {x : Sp} (hm : may x = true) : CP x (cutT x false) := by
  obtain ⟨_, _, _, _, m5⟩ := may_parts hm
  unfold cutT
  cases hcut : x.cut with
  | true =>
    right
    rw [if_pos rfl]
    exact ⟨digits x.fr, digits x.mn, rfl, number_of ⟨m5.1, m5.2.1⟩, number_of ⟨m5.2.2.1, m5.2.2.2⟩, hcut⟩
  | false =>
    left
    rw [if_neg (by decide)]
    rw [may_is] at hm
    unfold cutB at hm
    rw [hcut] at hm
    simp only [Bool.and_eq_true, decide_eq_true_eq] at hm
    have h8 := hm.2.2.2
    rw [if_neg (by decide)] at h8
    simp only [Bool.and_eq_true, decide_eq_true_eq] at h8
    exact ⟨rfl, hcut, h8.1, h8.2⟩
theorem nameT_NT (w : List Int) : NT w (nameT w) := by
  unfold nameT
  by_cases h : w ≠ [] ∧ w.all atm = true
  · rw [if_pos h]
    exact .inl ⟨rfl, h.1, fun c hc => List.all_eq_true.1 h.2 c hc⟩
  · rw [if_neg h]
    exact .inr rfl
theorem names_NLt : ∀ (ws : List (List Int)) (a : List Int), ∃ L, joinL 32 (a :: ws.map nameT) = a ++ L ∧ NLt ws L
  | [], a => ⟨[], by simp [joinL], .nil⟩
  | w :: ws, a => by
    obtain ⟨L, h1, h2⟩ := names_NLt ws (nameT w)
    refine ⟨32 :: (nameT w ++ L), ?_, .more (nameT_NT w) h2⟩
    show a ++ 32 :: joinL 32 (nameT w :: ws.map nameT) = _
    rw [h1]
theorem put_NP {x : Sp} (hm : may x = true) : NP x (namesT x) := by
  have hli := may_listed hm
  unfold namesT
  cases hl : listed x.q with
  | true =>
    left
    rw [if_pos rfl]
    have hne := hli.1 hl
    cases hnm : x.nm with
    | nil => exact absurd hnm hne
    | cons w ws =>
      obtain ⟨L, h1, h2⟩ := names_NLt ws (nameT w)
      refine ⟨hl, nameT w ++ L, ?_, ?_⟩
      · rw [List.map_cons, h1]; simp
      · exact ⟨w, nameT w, ws, L, rfl, rfl, nameT_NT w, h2⟩
  | false =>
    right
    rw [if_neg (by decide)]
    refine ⟨hl, rfl, ?_⟩
    rcases Decidable.em (x.nm = []) with h | h
    · exact h
    · rw [hli.2 h] at hl; cases hl
theorem head_word : ∀ y : Fin 6, headD (wordL y.val) = false ∧ (1 ≤ y.val → findL (wordL y.val) = some y.val ∧ wordL y.val ≠ []) := by decide
theorem dig_no46 {l : List Int} (h : ∀ c ∈ l, dig c = true) : ∀ c ∈ l, c ≠ 46 := by
  intro c hc e
  have := h c hc
  rw [e] at this
  exact absurd this (by decide)
theorem what_word (q : Int) (hq : 0 ≤ q ∧ q ≤ 5) (p : List Int) (e : Nat) : rwhatL (e + 1) (if q = 0 then [] else wordL q.toNat) p = some (p, q) := by
  by_cases h : q = 0
  · rw [if_pos h, h]; rfl
  · rw [if_neg h]
    have hw := head_word ⟨q.toNat, by omega⟩
    have h2 := hw.2 (by show 1 ≤ q.toNat; omega)
    rw [rwhatL, if_neg (by rw [hw.1]; decide), if_neg h2.2, h2.1]
    show some (p, ((q.toNat : Nat) : Int)) = _
    rw [Int.toNat_of_nonneg hq.1]
theorem what_path (q : Int) (hq : 0 ≤ q ∧ q ≤ 5) : ∀ (ns p : List Int) (e : Nat), (∀ n ∈ ns, 0 ≤ n ∧ n ≤ 4294967295) → ns.length < e → rwhatL e (joinL 46 (ns.map digits ++ (if q = 0 then [] else [wordL q.toNat]))) p = some (p ++ ns, q)
  | [], p, 0, _, h => by simp at h
  | [], p, e + 1, _, _ => by
    have := what_word q hq p e
    rw [List.append_nil]
    by_cases h : q = 0
    · rw [if_pos h] at this ⊢; exact this
    · rw [if_neg h] at this ⊢; exact this
  | n :: ns, p, 0, _, h => by simp at h
  | n :: ns, p, e + 1, hn, he => by
    have hn0 := hn n List.mem_cons_self
    obtain ⟨d1, d2⟩ := digits_ok n hn0
    have hnum := number_of hn0
    have h46 := dig_no46 d1
    have ih := what_path q hq ns (p ++ [n]) e (fun m hm => hn m (List.mem_cons_of_mem _ hm)) (by simp at he; omega)
    rw [List.map_cons]
    by_cases hr : ns.map digits ++ (if q = 0 then [] else [wordL q.toNat]) = []
    · have h1 : ns = [] := List.map_eq_nil_iff.1 (List.append_eq_nil_iff.1 hr).1
      have h2 : q = 0 := by
        have := (List.append_eq_nil_iff.1 hr).2
        by_cases h : q = 0
        · exact h
        · rw [if_neg h] at this; cases this
      rw [List.cons_append, hr]
      show rwhatL (e + 1) (digits n) p = _
      rw [rwhatL, if_pos (headD_of d1 d2), headL_no h46]
      dsimp only
      rw [hnum, if_pos ⟨rfl, .inl rfl⟩, if_neg (by decide), h1, h2]
    · obtain ⟨a, l, hal⟩ : ∃ a l, ns.map digits ++ (if q = 0 then [] else [wordL q.toNat]) = a :: l := by
        cases hc : ns.map digits ++ (if q = 0 then [] else [wordL q.toNat]) with
        | nil => exact absurd hc hr
        | cons a l => exact ⟨a, l, rfl⟩
      have hane : joinL 46 (a :: l) ≠ [] := by
        have ha : a ≠ [] := by
          cases ns with
          | nil =>
            by_cases h : q = 0
            · rw [if_pos h] at hal; cases hal
            · rw [if_neg h] at hal
              injection hal with h1 h2
              rw [← h1]
              exact ((head_word ⟨q.toNat, by omega⟩).2 (by show 1 ≤ q.toNat; omega)).2
          | cons m ms =>
            injection hal with h1 h2
            rw [← h1]
            exact (digits_ok m (hn m (List.mem_cons_of_mem _ List.mem_cons_self))).2
        cases l with
        | nil => exact ha
        | cons b l' => intro e; exact ha (List.append_eq_nil_iff.1 e).1
      rw [List.cons_append, hal]
      show rwhatL (e + 1) (digits n ++ 46 :: joinL 46 (a :: l)) p = _
      rw [rwhatL, if_pos (headD_cons (headD_of d1 d2)), headL_yes h46]
      dsimp only
      rw [hnum, if_pos ⟨rfl, .inr hane⟩, if_pos rfl, ← hal, ih]
      simp
theorem put_G {x : Sp} (hm : may x = true) : G (putL x false) x := by
  obtain ⟨_, _, m3, m4, _⟩ := may_parts hm
  refine ⟨pathT x, namesT x, cutT x false, rfl, ?_, put_NP hm, put_CP hm⟩
  intro e he
  have := what_path x.q m4 x.p [] (e + x.p.length + 1) (fun n h => by have := m3 n h; omega) (by omega)
  rw [List.nil_append] at this
  rw [rwhatL_more e (pathT x) [] (e + x.p.length + 1) he (by omega)]
  exact this
end Go.Proofs.YtbjbagocnnffaaaDoor.Sec
