/- The pieces of a text and its list, said of lists. -/
import Derived.Test.YtcjepgofcojeoaaAd1
set_option linter.unusedVariables false
set_option linter.unusedSimpArgs false
namespace Go.Proofs.Ytcjepgofcojeoaa.Ad
open Go.RowKit Go.Proofs.Ytcjepgofcojeoaa.P Go.Proofs.YtcjepgofcojeoaaW.PrintWords Go.Proofs.YtcjepgofcojeoaaW.PrintLast Go.Proofs.Ytcjepgofcojeoaa.Aids
theorem qtd_len : ∀ (n : Nat) (l a r : List Int), l.length ≤ n → qtd l = some (a, r) → a.length + r.length + 1 ≤ l.length
  | _, [], _, _, _, h => by cases h
  | 0, _ :: _, _, _, h, _ => by simp at h
  | n + 1, c :: t, a, r, hn, h => by
    rw [qtd_cons] at h
    simp only [List.length_cons] at hn ⊢
    split at h
    · obtain ⟨rfl, rfl⟩ := Prod.mk.inj (Option.some.inj h); simp
    · split at h
      · cases t with
        | nil => cases h
        | cons x u =>
          obtain ⟨⟨a', r'⟩, h1, h2⟩ := Option.map_eq_some_iff.1 h
          obtain ⟨rfl, rfl⟩ := Prod.mk.inj h2
          simp only [List.length_cons] at hn ⊢
          have := qtd_len n u a' r' (by omega) h1
          omega
      · obtain ⟨⟨a', r'⟩, h1, h2⟩ := Option.map_eq_some_iff.1 h
        obtain ⟨rfl, rfl⟩ := Prod.mk.inj h2
        have := qtd_len n t a' r' (by omega) h1
        simp; omega
theorem qtd_byte : ∀ (n : Nat) (l a r : List Int), l.length ≤ n → qtd l = some (a, r) → byte l → byte a ∧ byte r
  | _, [], _, _, _, h, _ => by cases h
  | 0, _ :: _, _, _, h, _, _ => by simp at h
  | n + 1, c :: t, a, r, hn, h, hb => by
    have hb' : byte t := fun x hx => hb x (List.mem_cons_of_mem _ hx)
    have hc := hb c List.mem_cons_self
    rw [qtd_cons] at h
    simp only [List.length_cons] at hn
    split at h
    · obtain ⟨rfl, rfl⟩ := Prod.mk.inj (Option.some.inj h); exact ⟨byte_nil, hb'⟩
    · split at h
      · cases t with
        | nil => cases h
        | cons x u =>
          obtain ⟨⟨a', r'⟩, h1, h2⟩ := Option.map_eq_some_iff.1 h
          obtain ⟨rfl, rfl⟩ := Prod.mk.inj h2
          simp only [List.length_cons] at hn
          have := qtd_byte n u a' r' (by omega) h1 (fun y hy => hb' y (List.mem_cons_of_mem _ hy))
          exact ⟨byte_cons (hb' x List.mem_cons_self) this.1, this.2⟩
      · obtain ⟨⟨a', r'⟩, h1, h2⟩ := Option.map_eq_some_iff.1 h
        obtain ⟨rfl, rfl⟩ := Prod.mk.inj h2
        have := qtd_byte n t a' r' (by omega) h1 hb'
        exact ⟨byte_cons hc this.1, this.2⟩
theorem cut93_app : ∀ {l a r : List Int}, cut93 l = some (a, r) → l = a ++ r
  | [], _, _, h => by cases h
  | c :: t, a, r, h => by
    unfold cut93 at h
    split at h
    · obtain ⟨rfl, rfl⟩ := Prod.mk.inj (Option.some.inj h); rfl
    · obtain ⟨⟨a', r'⟩, h1, h2⟩ := Option.map_eq_some_iff.1 h
      obtain ⟨rfl, rfl⟩ := Prod.mk.inj h2
      rw [cut93_app h1]; rfl
theorem pln_app : ∀ (n : Nat) (l a r : List Int), pln n l = some (a, r) → l = a ++ r
  | 0, l, a, r, h => by rw [pln] at h; obtain ⟨rfl, rfl⟩ := Prod.mk.inj (Option.some.inj h); rfl
  | n + 1, [], a, r, h => by rw [pln] at h; obtain ⟨rfl, rfl⟩ := Prod.mk.inj (Option.some.inj h); rfl
  | n + 1, c :: t, a, r, h => by
    rw [pln] at h
    split at h
    · obtain ⟨rfl, rfl⟩ := Prod.mk.inj (Option.some.inj h); rfl
    · split at h
      · obtain ⟨⟨a1, r1⟩, h1, h2⟩ := Option.bind_eq_some_iff.1 h
        obtain ⟨⟨a2, r2⟩, h3, h4⟩ := Option.map_eq_some_iff.1 h2
        obtain ⟨rfl, rfl⟩ := Prod.mk.inj h4
        have e1 := cut93_app h1
        have e2 := pln_app n _ _ _ h3
        simp only at e2 ⊢
        rw [e1, e2, List.append_assoc]
      · obtain ⟨⟨a2, r2⟩, h3, h4⟩ := Option.map_eq_some_iff.1 h
        obtain ⟨rfl, rfl⟩ := Prod.mk.inj h4
        rw [pln_app n _ _ _ h3]; rfl
theorem pln_fuel : ∀ (n m : Nat) (l : List Int), l.length ≤ n → l.length ≤ m → pln n l = pln m l
  | 0, 0, l, _, _ => rfl
  | 0, m + 1, [], _, _ => rfl
  | n + 1, 0, [], _, _ => rfl
  | n + 1, m + 1, [], _, _ => rfl
  | 0, _ + 1, c :: t, h, _ => by simp at h
  | n + 1, 0, c :: t, _, h => by simp at h
  | n + 1, m + 1, c :: t, h1, h2 => by
    simp only [List.length_cons] at h1 h2
    rw [pln, pln, pln_fuel n m t (by omega) (by omega)]
    split
    · rfl
    · split
      · cases hc : cut93 (c :: t) with
        | none => rfl
        | some p =>
          obtain ⟨a, r⟩ := p
          have := cut93_len hc
          simp only [List.length_cons] at this
          simp only [Option.bind_some]
          rw [pln_fuel n m r (by omega) (by omega)]
      · rfl
def plnL (l : List Int) : Option (List Int × List Int) := pln l.length l
def sgn (c : Int) : Bool := [60, 62, 58, 59, 44, 64].contains c
theorem sgn_ok {c : Int} (h : 0 ≤ c ∧ c ≤ 255) : decide (0 ≤ sgP c) = sgn c := of_bytes (p := fun c => decide (0 ≤ sgP c) = sgn c) (by decide +kernel) h
def pcs : Nat → List Int → Option (List Pc)
  | 0, _ => some []
  | _ + 1, [] => some []
  | n + 1, c :: t => if sgn c = true then (pcs n (skipL t)).map (Pc.s c :: ·) else if c = 34 then (qtd t).bind fun p => (pcs n (skipL p.2)).map (Pc.w (strOfNums p.1) :: ·) else (plnL (c :: t)).bind fun p => if p.1 = [] then none else (pcs n (skipL p.2)).map (Pc.w (strOfNums p.1) :: ·)
theorem skipL_len (l : List Int) : (skipL l).length ≤ l.length := skp_len _ _
theorem skipL_byte {l : List Int} (h : byte l) : byte (skipL l) := skp_byte _ _ h
theorem pcs_nil : ∀ n, pcs n [] = some []
  | 0 => rfl
  | _ + 1 => rfl
theorem pcs_fuel : ∀ (n m : Nat) (l : List Int), l.length ≤ n → l.length ≤ m → pcs n l = pcs m l
  | n, m, [], _, _ => by rw [pcs_nil, pcs_nil]
  | 0, _, c :: t, h, _ => by simp at h
  | _ + 1, 0, c :: t, _, h => by simp at h
  | n + 1, m + 1, c :: t, h1, h2 => by
    simp only [List.length_cons] at h1 h2
    have e1 := skipL_len t
    rw [pcs, pcs, pcs_fuel n m (skipL t) (by omega) (by omega)]
    split
    · rfl
    · split
      · cases hq : qtd t with
        | none => rfl
        | some p =>
          obtain ⟨a, r⟩ := p
          have e2 := qtd_len t.length t a r (Nat.le_refl _) hq
          have e3 := skipL_len r
          simp only [Option.bind_some]
          rw [pcs_fuel n m (skipL r) (by omega) (by omega)]
      · cases hq : plnL (c :: t) with
        | none => rfl
        | some p =>
          obtain ⟨a, r⟩ := p
          have e2 := congrArg List.length (pln_app _ _ _ _ hq)
          have e3 := skipL_len r
          simp only [List.length_cons, List.length_append] at e2
          simp only [Option.bind_some]
          split
          · rfl
          · rename_i hne
            have := List.length_pos_iff.2 hne
            rw [pcs_fuel n m (skipL r) (by omega) (by omega)]
def pcL (l : List Int) : Option (List Pc) := pcs l.length (skipL l)
theorem pcL_at (l : List Int) (n : Nat) (h : (skipL l).length ≤ n) : pcs n (skipL l) = pcL l := pcs_fuel _ _ _ h (skipL_len l)
theorem pcL_nil {l : List Int} (h : skipL l = []) : pcL l = some [] := by unfold pcL; rw [h, pcs_nil]
theorem pcL_cons {l t : List Int} {c : Int} (h : skipL l = c :: t) : pcL l = if sgn c = true then (pcL t).map (Pc.s c :: ·) else if c = 34 then (qtd t).bind fun p => (pcL p.2).map (Pc.w (strOfNums p.1) :: ·) else (plnL (c :: t)).bind fun p => if p.1 = [] then none else (pcL p.2).map (Pc.w (strOfNums p.1) :: ·) := by
  rw [← pcL_at l (t.length + 1) (by rw [h]; simp), h, pcs]
  have e1 := skipL_len t
  rw [pcL_at t _ e1]
  split
  · rfl
  · split
    · cases hq : qtd t with
      | none => rfl
      | some p =>
        obtain ⟨a, r⟩ := p
        have e2 := qtd_len t.length t a r (Nat.le_refl _) hq
        have e3 := skipL_len r
        simp only [Option.bind_some]
        rw [pcL_at r _ (by omega)]
    · cases hq : plnL (c :: t) with
      | none => rfl
      | some p =>
        obtain ⟨a, r⟩ := p
        have e2 := congrArg List.length (pln_app _ _ _ _ hq)
        have e3 := skipL_len r
        simp only [List.length_cons, List.length_append] at e2
        simp only [Option.bind_some]
        split
        · rfl
        · rename_i hne
          have := List.length_pos_iff.2 hne
          rw [pcL_at r _ (by omega)]
/-! the program's pieces -/
def pcOut (out : List Pc) : Option (List Pc) → List Pc × Bool
  | some P => (out ++ P, true)
  | none => ([], false)
theorem pcOut_map (out : List Pc) (p : Pc) (o : Option (List Pc)) : pcOut out (o.map (p :: ·)) = pcOut (out ++ [p]) o := by
  cases o with
  | none => rfl
  | some q => simp [pcOut]
theorem pieces_l : ∀ (n : Nat) (s : List Int) (out : List Pc), byte s → s.length ≤ n → n ≤ 10000 → out.length + s.length ≤ 20000 → ∃ K, ∀ k d, K ≤ k → K ≤ d → pc_l k d out (strOfNums s) = some (pcOut out (pcs n s)) := by
  have stop : ∀ (n : Nat) (out : List Pc), ∃ K, ∀ k d, K ≤ k → K ≤ d → pc_l k d out (strOfNums []) = some (pcOut out (pcs n [])) := by
    intro n out
    refine ⟨1, fun k d h1 h2 => ?_⟩
    obtain ⟨d, rfl⟩ : ∃ m, d = m + 1 := ⟨d - 1, by omega⟩
    rw [pc_l, if_pos ((str_toList_nil []).2 rfl), pcs_nil]
    simp [pcOut]
  intro n
  induction n with
  | zero =>
    intro s out hb h1 h2 h3
    obtain rfl : s = [] := List.eq_nil_of_length_eq_zero (by omega)
    exact stop 0 out
  | succ n ih =>
    intro s out hb h1 h2 h3
    cases s with
    | nil => exact stop (n + 1) out
    | cons c t =>
    have hb' : byte t := fun x hx => hb x (List.mem_cons_of_mem _ hx)
    have hc := hb c List.mem_cons_self
    simp only [List.length_cons] at h1 h3
    have hne : (strOfNums (c :: t)).toList ≠ ([] : List UInt8) := fun e => by have := (str_toList_nil _).1 e; cases this
    have e0 : bt (strOfNums (c :: t)) 0 = c := by rw [str_bt _ hb]; rfl
    have hsz : 1 ≤ ((strOfNums (c :: t)).size : Int) ∧ out.length < 1000000 := by rw [strOfNums_size]; simp; omega
    have hsg := sgn_ok hc
    have e1 := skipL_len t
    have go : ∀ (r : List Int) (p : Pc), byte r → r.length ≤ t.length → ∃ K, ∀ k d, K ≤ k → K ≤ d → ((addr_skip.f k (strOfNums r)).bind fun s2 => pc_l k d (out ++ [p]) s2) = some (pcOut out ((pcs n (skipL r)).map (p :: ·))) := by
      intro r p hbr hr
      have hs := skipL_len r
      obtain ⟨K1, hk1⟩ := skip_ok r.length r hbr (Nat.le_refl _) (by omega)
      dsimp only at hk1
      obtain ⟨K2, hk2⟩ := ih (skipL r) (out ++ [p]) (skipL_byte hbr) (by omega) (by omega) (by simp; omega)
      refine ⟨max K1 K2, fun k d h1 h2 => ?_⟩
      rw [hk1 k (by omega), Option.bind_some, hk2 k d (by omega) (by omega), pcOut_map]
    have hp2 : sgn c = false → c = 34 → pcs (n + 1) (c :: t) = (qtd t).bind fun p => (pcs n (skipL p.2)).map (Pc.w (strOfNums p.1) :: ·) := fun h1 h2 => by rw [pcs, if_neg (by rw [h1]; decide), if_pos h2]
    have hp3 : sgn c = false → ¬ c = 34 → pcs (n + 1) (c :: t) = (plnL (c :: t)).bind fun p => if p.1 = [] then none else (pcs n (skipL p.2)).map (Pc.w (strOfNums p.1) :: ·) := fun h1 h2 => by rw [pcs, if_neg (by rw [h1]; decide), if_neg h2]
    cases hs : sgn c with
    | true =>
      rw [hs] at hsg
      obtain ⟨K, hK⟩ := go t (.s c) hb' (Nat.le_refl _)
      refine ⟨K + 1, fun k d hk hd => ?_⟩
      obtain ⟨d, rfl⟩ : ∃ m, d = m + 1 := ⟨d - 1, by omega⟩
      rw [pc_l, if_neg hne, if_pos hsz, e0, if_pos (of_decide_eq_true hsg), str_extract, strOfNums_size, List.take_length, show (c :: t).drop 1 = t from rfl, hK k d (by omega) (by omega), pcs, if_pos hs]
    | false =>
      rw [hs] at hsg
      by_cases hq : c = 34
      · have hqo := quoted_ok (s := c :: t) hb (by simp; omega) rfl
        obtain ⟨K1, hk1⟩ := hqo
        cases hqt : qtd t with
        | none =>
          have hk2 : ∀ k, K1 ≤ k → addr_quoted.f k (strOfNums (c :: t)) = some (⟨#[]⟩, ⟨#[]⟩, false) := fun k hk => by have := hk1 k hk; rw [hqt] at this; exact this
          refine ⟨K1 + 1, fun k d hk hd => ?_⟩
          obtain ⟨d, rfl⟩ : ∃ m, d = m + 1 := ⟨d - 1, by omega⟩
          rw [pc_l, if_neg hne, if_pos hsz, e0, if_neg (of_decide_eq_false hsg), if_pos hq, hk2 k (by omega), Option.bind_some, hp2 hs hq, hqt]
          rfl
        | some p =>
          obtain ⟨a, r⟩ := p
          have hk2 : ∀ k, K1 ≤ k → addr_quoted.f k (strOfNums (c :: t)) = some (strOfNums a, strOfNums r, true) := fun k hk => by have := hk1 k hk; rw [hqt] at this; exact this
          have e2 := qtd_len t.length t a r (Nat.le_refl _) hqt
          have e3 := qtd_byte t.length t a r (Nat.le_refl _) hqt hb'
          obtain ⟨K, hK⟩ := go r (.w (strOfNums a)) e3.2 (by omega)
          refine ⟨max K K1 + 1, fun k d hk hd => ?_⟩
          obtain ⟨d, rfl⟩ : ∃ m, d = m + 1 := ⟨d - 1, by omega⟩
          rw [pc_l, if_neg hne, if_pos hsz, e0, if_neg (of_decide_eq_false hsg), if_pos hq, hk2 k (by omega), Option.bind_some, hp2 hs hq, hqt, Option.bind_some, if_pos (show (strOfNums a, strOfNums r, true).2.2 = true from rfl)]
          exact hK k d (by omega) (by omega)
      · obtain ⟨K1, hk1⟩ := plain_ok (s := c :: t) hb (by simp; omega)
        have hpl : pln (c :: t).length (c :: t) = plnL (c :: t) := rfl
        cases hqt : plnL (c :: t) with
        | none =>
          have hk2 : ∀ k, K1 ≤ k → addr_plain.f k (strOfNums (c :: t)) = some (⟨#[]⟩, strOfNums (c :: t)) := fun k hk => by have := hk1 k hk; rw [hpl, hqt] at this; exact this
          refine ⟨K1 + 1, fun k d hk hd => ?_⟩
          obtain ⟨d, rfl⟩ : ∃ m, d = m + 1 := ⟨d - 1, by omega⟩
          rw [pc_l, if_neg hne, if_pos hsz, e0, if_neg (of_decide_eq_false hsg), if_neg hq, hk2 k (by omega), Option.bind_some, hp3 hs hq, hqt, if_pos (show ((⟨#[]⟩ : ByteArray), strOfNums (c :: t)).1.toList = ([] : List UInt8) from (str_toList_nil []).2 rfl)]
          rfl
        | some p =>
          obtain ⟨a, r⟩ := p
          have hk2 : ∀ k, K1 ≤ k → addr_plain.f k (strOfNums (c :: t)) = some (strOfNums a, strOfNums r) := fun k hk => by have := hk1 k hk; rw [hpl, hqt] at this; exact this
          have e2 := pln_app _ _ _ _ hqt
          have e2l := congrArg List.length e2
          simp only [List.length_cons, List.length_append] at e2l
          have hbr : byte r := fun x hx => hb x (by rw [e2]; exact List.mem_append_right _ hx)
          by_cases ha : a = []
          · refine ⟨K1 + 1, fun k d hk hd => ?_⟩
            obtain ⟨d, rfl⟩ : ∃ m, d = m + 1 := ⟨d - 1, by omega⟩
            rw [pc_l, if_neg hne, if_pos hsz, e0, if_neg (of_decide_eq_false hsg), if_neg hq, hk2 k (by omega), Option.bind_some, hp3 hs hq, hqt, Option.bind_some, if_pos (show (strOfNums a, strOfNums r).1.toList = ([] : List UInt8) from (str_toList_nil a).2 ha), if_pos (show (a, r).1 = [] from ha)]
            rfl
          · have hpos := List.length_pos_iff.2 ha
            obtain ⟨K, hK⟩ := go r (.w (strOfNums a)) hbr (by omega)
            refine ⟨max K K1 + 1, fun k d hk hd => ?_⟩
            obtain ⟨d, rfl⟩ : ∃ m, d = m + 1 := ⟨d - 1, by omega⟩
            rw [pc_l, if_neg hne, if_pos hsz, e0, if_neg (of_decide_eq_false hsg), if_neg hq, hk2 k (by omega), Option.bind_some, hp3 hs hq, hqt, Option.bind_some, if_neg (show ¬ (strOfNums a, strOfNums r).1.toList = ([] : List UInt8) from fun e => ha ((str_toList_nil a).1 e)), if_neg (show ¬ (a, r).1 = [] from ha)]
            exact hK k d (by omega) (by omega)
theorem pieces_ok {s : List Int} (hb : byte s) (hl : s.length ≤ 10000) : Ev (fun k => pc_f k (strOfNums s)) (pcOut [] (pcL s)) := by
  have e1 := skipL_len s
  obtain ⟨K1, h1⟩ := skip_ok s.length s hb (Nat.le_refl _) hl
  dsimp only at h1
  obtain ⟨K2, h2⟩ := pieces_l s.length (skipL s) [] (skipL_byte hb) e1 hl (by simp; omega)
  refine ⟨max K1 K2, fun k hk => ?_⟩
  unfold pc_f
  dsimp only
  rw [h1 k (by omega), Option.bind_some, h2 k k (by omega) (by omega)]
  rfl
theorem pcs_small : ∀ (n : Nat) (s : List Int) (P : List Pc), s.length ≤ n → pcs n s = some P → P.length ≤ s.length ∧ ∀ b, Pc.w b ∈ P → b.size ≤ s.length
  | n, [], P, _, h => by rw [pcs_nil] at h; obtain rfl := Option.some.inj h; exact ⟨by simp, fun b hb => by simp at hb⟩
  | 0, _ :: _, _, h, _ => by simp at h
  | n + 1, c :: t, P, hn, h => by
    simp only [List.length_cons] at hn ⊢
    have e1 := skipL_len t
    rw [pcs] at h
    split at h
    · obtain ⟨Q, h1, rfl⟩ := Option.map_eq_some_iff.1 h
      have ih := pcs_small n _ Q (by omega) h1
      refine ⟨by simp; omega, fun b hb => ?_⟩
      rcases List.mem_cons.1 hb with e | e
      · cases e
      · have := ih.2 b e; omega
    · split at h
      · obtain ⟨⟨a, r⟩, h1, h2⟩ := Option.bind_eq_some_iff.1 h
        obtain ⟨Q, h3, rfl⟩ := Option.map_eq_some_iff.1 h2
        have e2 := qtd_len t.length t a r (Nat.le_refl _) h1
        have e3 := skipL_len r
        have ih := pcs_small n _ Q (by simp only; omega) h3
        simp only at ih
        refine ⟨by simp; omega, fun b hb => ?_⟩
        rcases List.mem_cons.1 hb with e | e
        · have e5 := Pc.w.inj e; rw [e5, strOfNums_size]; simp only; omega
        · have := ih.2 b e; omega
      · obtain ⟨⟨a, r⟩, h1, h2⟩ := Option.bind_eq_some_iff.1 h
        have e2 := congrArg List.length (pln_app _ _ _ _ h1)
        simp only [List.length_cons, List.length_append] at e2
        split at h2
        · cases h2
        · rename_i hne
          have hpos := List.length_pos_iff.2 hne
          obtain ⟨Q, h3, rfl⟩ := Option.map_eq_some_iff.1 h2
          have e3 := skipL_len r
          simp only at hpos h3
          have ih := pcs_small n _ Q (by omega) h3
          refine ⟨by simp; omega, fun b hb => ?_⟩
          rcases List.mem_cons.1 hb with e | e
          · have e5 := Pc.w.inj e; rw [e5, strOfNums_size]; simp only; omega
          · have := ih.2 b e; omega
theorem pcL_small {s : List Int} {P : List Pc} (hl : s.length ≤ 10000) (h : pcL s = some P) : pOkB P = true ∧ pOk P := by
  have e1 := skipL_len s
  have := pcs_small s.length (skipL s) P e1 h
  have hk : pOkB P = true := by
    unfold pOkB
    rw [Bool.and_eq_true, decide_eq_true_eq, List.all_eq_true]
    refine ⟨by omega, fun p hp => ?_⟩
    cases p with
    | s x => rfl
    | w b => exact decide_eq_true (by have := this.2 b hp; omega)
  exact ⟨hk, pOk_of hk⟩
def listL (s : List Int) : List S27 × Bool :=
  match pcL s with
  | some P => if (items0 P).1 = true then (if (items0 P).2.1 = [] then ((items0 P).2.2, true) else ([], false)) else ([], false)
  | none => ([], false)
theorem list_ok {s : List Int} (hb : byte s) (hl : s.length ≤ 10000) : Ev (fun k => addr_List.f k (strOfNums s)) (listL s) := by
  unfold addr_List.f listL
  refine bnd (pieces_ok hb hl) ?_
  cases h : pcL s with
  | none => exact no (by simp [pcOut]) (fin rfl)
  | some P =>
    have hP := (pcL_small hl h).1
    simp only [pcOut, List.nil_append]
    refine yes trivial (yes hP ?_)
    by_cases h1 : (items0 P).1 = true
    · rw [if_pos h1]
      refine yes h1 ?_
      by_cases h2 : (items0 P).2.1 = []
      · rw [if_pos h2]; exact yes h2 (fin rfl)
      · rw [if_neg h2]; exact no h2 (fin rfl)
    · rw [if_neg h1]; exact no h1 (fin rfl)
end Go.Proofs.Ytcjepgofcojeoaa.Ad
