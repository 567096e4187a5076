/- The document's answer, said of lists of bytes alone; it is what the program's reader tells. -/
import Derived.Test.YtbjbagocnnffaaaDoorSecA
set_option linter.unusedVariables false
set_option linter.unusedSimpArgs false
set_option linter.unusedSectionVars false
namespace Go.Proofs.YtbjbagocnnffaaaDoor.Sec
open Go.RowKit Go.Proofs.YtbjbagocnnffaaaDoor.P Go.Proofs.YtbjbagocnnffaaaDoorW.PrintWords Go.Proofs.YtbjbagocnnffaaaDoorW.PrintLast Go.Proofs.YtbjbagocnnffaaaDoor.Aids Go.Proofs.YtbjbagocnnffaaaDoor.Chars
theorem esc_len (s : List Int) : (esc s).length ≤ 2 * s.length := by
  induction s with
  | nil => simp [esc]
  | cons c t ih => rw [esc]; split <;> simp <;> omega
theorem esc_byte {s : List Int} (h : byte s) : byte (esc s) := by
  induction s with
  | nil => exact byte_nil
  | cons c t ih =>
    have hc := h c (List.mem_cons_self ..)
    have ht := ih (fun x hx => h x (List.mem_cons_of_mem _ hx))
    rw [esc]
    split
    · exact byte_cons (by omega) (byte_cons hc ht)
    · exact byte_cons hc ht
def nameT (s : List Int) : List Int := if (s ≠ [] ∧ s.all atm = true) then s else 34 :: (esc s ++ [34])
theorem headL_len (z : Int) (s : List Int) : (headL z s).1.length + (headL z s).2.1.length ≤ s.length := by
  obtain ⟨_, h2, h3⟩ := headL_is z s
  cases h : (headL z s).2.2 with
  | true => have := congrArg List.length (h2 h); rw [List.length_append] at this; simp at this; omega
  | false => have := congrArg List.length (h3 h).1; rw [(h3 h).2]; simp; omega
theorem headL_byte {z : Int} {s : List Int} (hb : byte s) : byte (headL z s).1 ∧ byte (headL z s).2.1 := by
  obtain ⟨_, h2, h3⟩ := headL_is z s
  cases h : (headL z s).2.2 with
  | true =>
    have e := h2 h
    exact ⟨fun c hc => hb c (by rw [e]; exact List.mem_append_left _ hc), fun c hc => hb c (by rw [e]; exact List.mem_append_right _ (List.mem_cons_of_mem _ hc))⟩
  | false => exact ⟨fun c hc => hb c (by rw [(h3 h).1]; exact hc), fun c hc => by rw [(h3 h).2] at hc; cases hc⟩
theorem rwhatL_more (d : Nat) : ∀ (s p : List Int) (e : Nat), s.length < d → s.length < e → rwhatL d s p = rwhatL e s p := by
  induction d with
  | zero => intro s p e h; omega
  | succ d ih =>
    intro s p e hd he
    obtain ⟨e, rfl⟩ : ∃ m, e = m + 1 := ⟨e - 1, by omega⟩
    rw [rwhatL, rwhatL]
    by_cases h : headD s = true
    · rw [if_pos h, if_pos h]
      by_cases hn : (number (headL 46 s).1).2 = true ∧ ((headL 46 s).2.2 = false ∨ (headL 46 s).2.1 ≠ [])
      · rw [if_pos hn, if_pos hn]
        have hpos : 0 < (headL 46 s).1.length := List.length_pos_iff.2 (number_some hn.1)
        have := headL_len 46 s
        rw [ih (headL 46 s).2.1 _ e (by omega) (by omega)]
      · rw [if_neg hn, if_neg hn]
    · rw [if_neg h, if_neg h]
def rscan : Nat → List Int → List Int → Option (List Int × List Int)
  | 0, _, _ => none
  | _ + 1, [], _ => none
  | d + 1, c :: t, acc => if c = 34 then some (acc, t) else if c = 92 then
      (match t with
      | [] => none
      | x :: u => rscan d u (acc ++ [x]))
    else rscan d t (acc ++ [c])
theorem rscan_cons (d : Nat) (c : Int) (t acc : List Int) : rscan (d + 1) (c :: t) acc = if c = 34 then some (acc, t) else if c = 92 then
      (match t with
      | [] => none
      | x :: u => rscan d u (acc ++ [x]))
    else rscan d t (acc ++ [c]) := rfl
theorem rscan_of : ∀ (u r acc : List Int) (d : Nat), (esc u ++ 34 :: r).length < d → rscan d (esc u ++ 34 :: r) acc = some (acc ++ u, r)
  | [], r, acc, d, hd => by
    obtain ⟨d, rfl⟩ : ∃ m, d = m + 1 := ⟨d - 1, by omega⟩
    rw [show esc [] ++ 34 :: r = 34 :: r from rfl, rscan_cons, if_pos rfl, List.append_nil]
  | c :: u, r, acc, d, hd => by
    obtain ⟨d, rfl⟩ : ∃ m, d = m + 1 := ⟨d - 1, by omega⟩
    rw [esc] at hd ⊢
    by_cases h : c = 34 ∨ c = 92
    · rw [if_pos h] at hd ⊢
      rw [List.cons_append, List.cons_append, rscan_cons, if_neg (by decide), if_pos rfl]
      simp only
      rw [rscan_of u r _ d (by simp at hd ⊢; omega)]
      simp
    · rw [if_neg h] at hd ⊢
      rw [List.cons_append, rscan_cons, if_neg (fun e => h (.inl e)), if_neg (fun e => h (.inr e)), rscan_of u r _ d (by simp at hd ⊢; omega)]
      simp
def nsp (c : Int) : Bool := decide (c ≠ 32)
def rnext (d : Nat) (f : List Int → List (List Int) → Option (List (List Int))) (acc : List (List Int)) : List Int → Option (List (List Int))
  | [] => some acc
  | c :: r => if c = 32 then f r acc else none
def rnamesL : Nat → List Int → List (List Int) → Option (List (List Int))
  | 0, _, _ => none
  | d + 1, s, acc =>
    match cutp [34] s with
    | some s' =>
      match rscan (s'.length + 1) s' [] with
      | none => none
      | some o => if 34 :: (esc o.1 ++ [34]) = s.take (s.length - o.2.length) then rnext d (rnamesL d) (acc ++ [o.1]) o.2 else none
    | none => if nameT (s.takeWhile nsp) = s.takeWhile nsp then rnext d (rnamesL d) (acc ++ [s.takeWhile nsp]) (s.dropWhile nsp) else none
/-! the document's names are those of the text -/
theorem rnamesL_of (d : Nat) : ∀ (w T : List Int) (ws : List (List Int)) (L : List Int) (acc : List (List Int)), NT w T → NLt ws L → (T ++ L).length < d → rnamesL d (T ++ L) acc = some (acc ++ w :: ws) := by
  induction d with
  | zero => intro w T ws L acc _ _ h; omega
  | succ d ih =>
    intro w T ws L acc hT hL hd
    have next : T ≠ [] → rnext d (rnamesL d) (acc ++ [w]) L = some (acc ++ w :: ws) := by
      intro hne
      have hpos : 0 < T.length := List.length_pos_iff.2 hne
      cases hL with
      | nil => rfl
      | more h1 h2 =>
        rename_i w1 T1 L1 ws1
        show (if (32 : Int) = 32 then rnamesL d (T1 ++ L1) (acc ++ [w]) else none) = _
        rw [if_pos rfl, ih w1 T1 ws1 L1 _ h1 h2 (by simp at hd ⊢; omega)]
        simp
    rw [rnamesL]
    rcases hT with ⟨rfl, hn, ha⟩ | rfl
    · have hc : cutp [34] (T ++ L) = none := by
        cases T with
        | nil => exact absurd rfl hn
        | cons c t => rw [List.cons_append, cutp, if_neg (fun e => by have := ha c (List.mem_cons_self ..); rw [← e] at this; exact absurd this (by decide))]
      rw [hc]
      simp only
      have hall : ∀ c ∈ T, nsp c = true := fun c hc => by
        unfold nsp; rw [decide_eq_true_iff]
        intro e; have := ha c hc; rw [e] at this; exact absurd this (by decide)
      have hs : stops nsp L := by
        cases hL with
        | nil => intro c t e; cases e
        | more h1 h2 => intro c t e; injection e with e1 e2; rw [← e1]; decide
      have tw := tw_app hall hs
      rw [tw.1, tw.2, if_pos (by unfold nameT; rw [if_pos ⟨hn, List.all_eq_true.2 ha⟩])]
      exact next hn
    · have e0 : (34 :: (esc w ++ [34])) ++ L = 34 :: (esc w ++ 34 :: L) := by simp
      rw [e0, show cutp [34] (34 :: (esc w ++ 34 :: L)) = some (esc w ++ 34 :: L) from rfl]
      simp only
      rw [rscan_of w L [] _ (Nat.lt_succ_self _)]
      simp only [List.nil_append]
      rw [if_pos ?_]
      · exact next (by simp)
      · rw [← e0]
        have e9 : (34 :: (esc w ++ [34]) ++ L).length - L.length = (34 :: (esc w ++ [34])).length := by rw [List.length_append]; omega
        rw [e9, List.take_left' rfl]
theorem rnamesL_to (d : Nat) : ∀ (s : List Int) (acc l : List (List Int)), rnamesL d s acc = some l → ∃ w T ws L, s = T ++ L ∧ l = acc ++ w :: ws ∧ NT w T ∧ NLt ws L := by
  induction d with
  | zero => intro s acc l h; simp [rnamesL] at h
  | succ d ih =>
    intro s acc l h
    rw [rnamesL] at h
    have next : ∀ (w r : List Int), rnext d (rnamesL d) (acc ++ [w]) r = some l → ∃ ws, l = acc ++ w :: ws ∧ NLt ws r := by
      intro w r hr
      cases r with
      | nil => exact ⟨[], (Option.some.inj hr).symm, .nil⟩
      | cons c r =>
        have hr : (if c = 32 then rnamesL d r (acc ++ [w]) else none) = some l := hr
        by_cases hc : c = 32
        · rw [if_pos hc] at hr
          obtain ⟨w1, T1, ws1, L1, rfl, rfl, h1, h2⟩ := ih _ _ _ hr
          exact ⟨w1 :: ws1, by simp, by rw [hc]; exact .more h1 h2⟩
        · rw [if_neg hc] at hr; cases hr
    cases hc : cutp [34] s with
    | some s' =>
      rw [hc] at h
      simp only at h
      cases hq : rscan (s'.length + 1) s' [] with
      | none => rw [hq] at h; cases h
      | some o =>
        rw [hq] at h
        simp only at h
        by_cases ht : 34 :: (esc o.1 ++ [34]) = s.take (s.length - o.2.length)
        · rw [if_pos ht] at h
          obtain ⟨ws, e1, e2⟩ := next _ _ h
          have suf : ∀ (d : Nat) (t acc : List Int) (o : List Int × List Int), rscan d t acc = some o → ∃ pre, t = pre ++ o.2 := by
            intro d
            induction d with
            | zero => intro t acc o h; simp [rscan] at h
            | succ d ih2 =>
              intro t acc o h
              cases t with
              | nil => simp [rscan] at h
              | cons c t =>
                rw [rscan_cons] at h
                by_cases h1 : c = 34
                · rw [if_pos h1] at h; obtain rfl := Option.some.inj h; exact ⟨[c], rfl⟩
                · rw [if_neg h1] at h
                  by_cases h2 : c = 92
                  · rw [if_pos h2] at h
                    cases t with
                    | nil => cases h
                    | cons x u => obtain ⟨pre, e⟩ := ih2 _ _ _ h; exact ⟨c :: x :: pre, by rw [e]; rfl⟩
                  · rw [if_neg h2] at h; obtain ⟨pre, e⟩ := ih2 _ _ _ h; exact ⟨c :: pre, by rw [e]; rfl⟩
          obtain ⟨pre, e3⟩ := suf _ _ _ _ hq
          have e4 : s = (34 :: pre) ++ o.2 := by rw [cutp_some _ _ _ hc, e3]; rfl
          refine ⟨o.1, 34 :: (esc o.1 ++ [34]), ws, o.2, ?_, e1, .inr rfl, e2⟩
          rw [ht]
          conv => lhs; rw [e4]
          rw [e4, List.length_append, Nat.add_sub_cancel, List.take_left']
          rfl
        · rw [if_neg ht] at h; cases h
    | none =>
      rw [hc] at h
      simp only at h
      by_cases hn : nameT (s.takeWhile nsp) = s.takeWhile nsp
      · rw [if_pos hn] at h
        obtain ⟨ws, e1, e2⟩ := next _ _ h
        refine ⟨s.takeWhile nsp, s.takeWhile nsp, ws, s.dropWhile nsp, (List.takeWhile_append_dropWhile ..).symm, e1, .inl ⟨rfl, ?_⟩, e2⟩
        unfold nameT at hn
        by_cases h2 : s.takeWhile nsp ≠ [] ∧ (s.takeWhile nsp).all atm = true
        · exact ⟨h2.1, List.all_eq_true.1 h2.2⟩
        · rw [if_neg h2] at hn
          exfalso
          cases s with
          | nil => cases hn
          | cons c t =>
            rw [List.takeWhile_cons] at hn
            cases hx : nsp c with
            | true =>
              rw [hx, if_pos rfl] at hn
              injection hn with e1 e2
              rw [← e1, cutp, if_pos rfl] at hc
              cases hc
            | false => rw [hx, if_neg (by decide)] at hn; cases hn
      · rw [if_neg hn] at h; cases h
def lastL (z : Int) : List Int → Option (List Int × List Int)
  | [] => none
  | c :: t => match lastL z t with | some o => some (c :: o.1, o.2) | none => if c = z then some ([], t) else none
theorem lastL_no {z : Int} : ∀ {s : List Int}, (∀ c ∈ s, c ≠ z) → lastL z s = none
  | [], _ => rfl
  | c :: t, h => by rw [lastL, lastL_no (fun x hx => h x (List.mem_cons_of_mem _ hx))]; simp only; rw [if_neg (h c (List.mem_cons_self ..))]
theorem lastL_of {z : Int} {b : List Int} (hb : ∀ c ∈ b, c ≠ z) : ∀ a : List Int, lastL z (a ++ z :: b) = some (a, b)
  | [] => by rw [List.nil_append, lastL, lastL_no hb]; simp only; rw [if_pos trivial]
  | c :: a => by rw [List.cons_append, lastL, lastL_of hb a]
theorem lastL_to {z : Int} : ∀ {s a b : List Int}, lastL z s = some (a, b) → s = a ++ z :: b
  | [], a, b, h => by cases h
  | c :: t, a, b, h => by
    rw [lastL] at h
    cases ht : lastL z t with
    | some o =>
      rw [ht] at h
      simp only [Option.some.injEq, Prod.mk.injEq] at h
      obtain ⟨rfl, rfl⟩ := h
      have := lastL_to (show lastL z t = some (o.1, o.2) from ht)
      rw [List.cons_append, ← this]
    | none =>
      rw [ht] at h
      simp only at h
      by_cases hc : c = z
      · rw [if_pos hc] at h
        simp only [Option.some.injEq, Prod.mk.injEq] at h
        obtain ⟨rfl, rfl⟩ := h
        rw [hc]; rfl
      · rw [if_neg hc] at h; cases h
theorem lastL_snoc (z c : Int) : ∀ a : List Int, lastL z (a ++ [c]) = if c = z then some (a, []) else (lastL z a).map (fun o => (o.1, o.2 ++ [c]))
  | [] => by
    rw [List.nil_append]
    show (if c = z then some ([], []) else none) = _
    by_cases h : c = z
    · rw [if_pos h, if_pos h]
    · rw [if_neg h, if_neg h]; rfl
  | x :: a => by
    rw [List.cons_append, lastL, lastL_snoc z c a, lastL]
    by_cases h : c = z
    · simp only [if_pos h]
    · simp only [if_neg h]
      cases lastL z a with
      | some o => rfl
      | none =>
        simp only [Option.map_none]
        by_cases hx : x = z
        · simp only [if_pos hx]; rfl
        · simp only [if_neg hx]; rfl
def cutB (x : Sp) : Bool := if x.cut then within x.fr 0 && within x.mn 1 else decide (x.fr = 0) && decide (x.mn = 0)
def headB (x : Sp) : Bool := decide (x.p.length ≤ 64) && decide (0 ≤ x.q) && decide (x.q ≤ 5) && (decide (x.q ≠ 5) || decide (0 < x.p.length)) && (if listed x.q then decide (1 ≤ x.nm.length) && decide (x.nm.length ≤ 100) else decide (x.nm.length = 0))
theorem may_is (x : Sp) : may x = (headB x && (x.p.all (within · 1) && (x.nm.all (·.all pr) && cutB x))) := by
  unfold may headB cutB
  cases decide (x.p.length ≤ 64) <;> cases decide (0 ≤ x.q) <;> cases decide (x.q ≤ 5) <;> cases (decide (x.q ≠ 5) || decide (0 < x.p.length)) <;> cases x.p.all (within · 1) <;> cases x.nm.all (·.all pr) <;> simp
def rcutL (p : List Int) (q : Int) (nm : List (List Int)) (tl : List Int) : Option Sp :=
  if tl = [] then some ⟨p, q, nm, false, 0, 0⟩
  else if (headL 46 ((tl.take (tl.length - 1)).drop 1)).2.2 = true ∧ (number (headL 46 ((tl.take (tl.length - 1)).drop 1)).1).2 = true ∧ (number (headL 46 ((tl.take (tl.length - 1)).drop 1)).2.1).2 = true then
    some ⟨p, q, nm, true, (number (headL 46 ((tl.take (tl.length - 1)).drop 1)).1).1, (number (headL 46 ((tl.take (tl.length - 1)).drop 1)).2.1).1⟩ else none
def rinL (inside tl : List Int) : Option Sp :=
  match rwhatL ((headL 32 inside).1.length + 1) (headL 32 inside).1 [] with
  | none => none
  | some o =>
    if (headL 32 inside).2.2 = true then
      (if (headL 32 inside).2.1.length < 2 ∨ rd (headL 32 inside).2.1 0 ≠ 40 ∨ rd (headL 32 inside).2.1 (((headL 32 inside).2.1.length - 1 : Nat) : Int) ≠ 41 then none
       else match rnamesL (((headL 32 inside).2.1.take ((headL 32 inside).2.1.length - 1)).drop 1).length.succ (((headL 32 inside).2.1.take ((headL 32 inside).2.1.length - 1)).drop 1) [] with
        | none => none
        | some l => rcutL o.1 o.2 l tl)
    else rcutL o.1 o.2 [] tl
def tailOk (tl : List Int) : Prop := tl = [] ∨ (5 ≤ tl.length ∧ rd tl 0 = 60 ∧ rd tl ((tl.length - 1 : Nat) : Int) = 62)
instance (tl : List Int) : Decidable (tailOk tl) := by unfold tailOk; infer_instance
def rparseL (t : List Int) : Option Sp :=
  if t = [] ∨ rd t 0 ≠ 91 then none else
  match lastL 93 t with
  | none => none
  | some o => if tailOk o.2 then rinL (o.1.drop 1) o.2 else none
theorem CP_93 {x : Sp} {C : List Int} (h : CP x C) : ∀ c ∈ C, c ≠ 93 := by
  have dd : ∀ {a : List Int} {n : Int}, number a = (n, true) → ∀ c ∈ a, c ≠ 93 := fun h c hc e => by
    have := number_dig (show (number _).2 = true by rw [h]) c hc
    rw [e] at this; exact absurd this (by decide)
  rcases h with ⟨rfl, _⟩ | ⟨a, b, rfl, h1, h2, _⟩
  · intro c hc; cases hc
  · intro c hc
    rcases List.mem_cons.1 hc with rfl | hc
    · decide
    · rcases List.mem_append.1 hc with hc | hc
      · exact dd h1 c hc
      · rcases List.mem_cons.1 hc with rfl | hc
        · decide
        · rcases List.mem_append.1 hc with hc | hc
          · exact dd h2 c hc
          · rw [List.mem_singleton.1 hc]; decide
theorem last_at (a : List Int) (c : Int) (n : Nat) (h : n = a.length) : rd (a ++ [c]) (n : Int) = c := by subst h; exact rd_last a c
theorem mid (a : Int) (m : List Int) (z : Int) (n : Nat) (h : n = m.length + 1) : ((a :: (m ++ [z])).take n).drop 1 = m := by
  subst h
  rw [List.take_succ_cons, List.drop_succ_cons, List.drop_zero, List.take_left' rfl]
theorem rcut_of {x : Sp} {C : List Int} (h : CP x C) : tailOk C ∧ rcutL x.p x.q x.nm C = some x := by
  rcases h with ⟨rfl, h1, h2, h3⟩ | ⟨a, b, rfl, h1, h2, h3⟩
  · refine ⟨.inl rfl, ?_⟩
    unfold rcutL
    rw [if_pos rfl]
    obtain ⟨p, q, nm, cut, fr, mn⟩ := x
    simp only at h1 h2 h3 ⊢
    rw [h1, h2, h3]
  · have na := List.length_pos_iff.2 (number_some (show (number a).2 = true by rw [h1]))
    have nb := List.length_pos_iff.2 (number_some (show (number b).2 = true by rw [h2]))
    have el : (60 :: (a ++ 46 :: (b ++ [62]))).length = a.length + b.length + 3 := by simp; omega
    have e0 : 60 :: (a ++ 46 :: (b ++ [62])) = 60 :: ((a ++ 46 :: b) ++ [62]) := by simp
    have e1 : ((60 :: (a ++ 46 :: (b ++ [62]))).take ((60 :: (a ++ 46 :: (b ++ [62]))).length - 1)).drop 1 = a ++ 46 :: b := by
      rw [el, e0]; exact mid 60 _ 62 _ (by simp; omega)
    refine ⟨.inr ⟨by omega, rfl, ?_⟩, ?_⟩
    · rw [el, e0, show 60 :: ((a ++ 46 :: b) ++ [62]) = (60 :: (a ++ 46 :: b)) ++ [62] from rfl]
      exact last_at _ _ _ (by simp; omega)
    · unfold rcutL
      have h46 : ∀ c ∈ a, c ≠ 46 := fun c hc e => by
        have := number_dig (show (number a).2 = true by rw [h1]) c hc
        rw [e, dig_46] at this; cases this
      rw [if_neg (by simp), e1, headL_yes h46]
      simp only
      rw [h1, h2, if_pos ⟨trivial, rfl, rfl⟩, ← h3]
theorem ref_of {t : List Int} {x : Sp} (h : G t x) : rparseL t = some x := by
  obtain ⟨W, N, C, rfl, hW, hN, hC⟩ := h
  obtain ⟨hto, hcut⟩ := rcut_of hC
  have hL := lastL_of (CP_93 hC) (91 :: (W ++ N))
  rw [show (91 :: (W ++ N)) ++ 93 :: C = 91 :: (W ++ N ++ 93 :: C) by simp] at hL
  unfold rparseL
  rw [if_neg (fun e => e.elim (fun e => by cases e) (fun e => e rfl)), hL]
  simp only
  rw [if_pos hto, List.drop_succ_cons, List.drop_zero]
  unfold rinL
  have hW32 : ∀ c ∈ W, c ≠ 32 := fun c hc e => by
    have := what_wch _ _ _ _ (hW (W.length + 1) (Nat.lt_succ_self _)) c hc
    rw [e] at this; exact absurd this (by decide)
  rcases hN with ⟨hl, L, rfl, hNL⟩ | ⟨hl, rfl, hnm⟩
  · have e1 : W ++ ([32, 40] ++ L ++ [41]) = W ++ 32 :: (40 :: (L ++ [41])) := by simp
    rw [e1, headL_yes hW32]
    simp only
    rw [hW _ (Nat.lt_succ_self _)]
    simp only
    have el : (40 :: (L ++ [41])).length = L.length + 2 := by simp
    have e2 : ((40 :: (L ++ [41])).take ((40 :: (L ++ [41])).length - 1)).drop 1 = L := by rw [el]; exact mid 40 L 41 _ (by omega)
    have e3 : rd (40 :: (L ++ [41])) (((40 :: (L ++ [41])).length - 1 : Nat) : Int) = 41 := by
      rw [el, show 40 :: (L ++ [41]) = (40 :: L) ++ [41] from rfl]
      exact last_at _ _ _ (by simp)
    rw [if_pos trivial, if_neg (fun e => e.elim (fun e => by omega) (fun e => e.elim (fun e => e rfl) (fun e => e e3))), e2]
    obtain ⟨w, T, ws, L', e4, rfl, h1, h2⟩ := hNL
    rw [rnamesL_of _ w T ws L' [] h1 h2 (Nat.lt_succ_self _)]
    simp only [List.nil_append]
    rw [← e4]; exact hcut
  · rw [List.append_nil, headL_no hW32]
    simp only
    rw [hW _ (Nat.lt_succ_self _)]
    simp only
    rw [if_neg (by decide), ← hnm]; exact hcut
theorem rcut_to {p : List Int} {q : Int} {nm : List (List Int)} {C : List Int} {x : Sp} (ht : tailOk C) (h : rcutL p q nm C = some x) : x.p = p ∧ x.q = q ∧ x.nm = nm ∧ CP x C := by
  unfold rcutL at h
  by_cases he : C = []
  · rw [if_pos he] at h
    obtain rfl := Option.some.inj h
    exact ⟨rfl, rfl, rfl, .inl ⟨he, rfl, rfl, rfl⟩⟩
  · rw [if_neg he] at h
    obtain ⟨h5, h60, h62⟩ := ht.resolve_left he
    split at h
    · rename_i hc
      obtain rfl := Option.some.inj h
      refine ⟨rfl, rfl, rfl, .inr ⟨_, _, ?_, Prod.ext rfl hc.2.1, Prod.ext rfl hc.2.2, rfl⟩⟩
      obtain ⟨_, i2, _⟩ := headL_is 46 ((C.take (C.length - 1)).drop 1)
      have e1 := i2 hc.1
      have e2 : C = C.take (C.length - 1) ++ [62] := by
        have := drop_rd C (C.length - 1) (by omega)
        rw [h62, List.drop_eq_nil_of_le (show C.length ≤ C.length - 1 + 1 by omega)] at this
        conv => lhs; rw [← List.take_append_drop (C.length - 1) C, this]
      have e3 : C.take (C.length - 1) = 60 :: (C.take (C.length - 1)).drop 1 := by
        have h0 : 0 < (C.take (C.length - 1)).length := by rw [List.length_take]; omega
        have := drop_rd (C.take (C.length - 1)) 0 h0
        rw [List.drop_zero] at this
        have h6 : rd (C.take (C.length - 1)) ((0 : Nat) : Int) = 60 := by
          rw [rd_at _ _ h0, List.getElem_take, ← rd_at C 0 (by omega)]; exact h60
        rw [h6] at this
        exact this
      conv => lhs; rw [e2, e3, e1]
      simp
    · cases h
theorem ref_to {t : List Int} {x : Sp} (h : rparseL t = some x) (hm : may x = true) : G t x := by
  unfold rparseL at h
  by_cases h0 : t = [] ∨ rd t 0 ≠ 91
  · rw [if_pos h0] at h; cases h
  · rw [if_neg h0] at h
    cases hL : lastL 93 t with
    | none => rw [hL] at h; cases h
    | some o =>
      rw [hL] at h
      simp only at h
      by_cases ht : tailOk o.2
      · rw [if_pos ht] at h
        have et := lastL_to (show lastL 93 t = some (o.1, o.2) from hL)
        have e1 : o.1 = 91 :: o.1.drop 1 := by
          have h91 : rd t 0 = 91 := Classical.byContradiction fun e => h0 (.inr e)
          cases ho : o.1 with
          | nil =>
            rw [ho, List.nil_append] at et
            rw [et] at h91
            exact absurd (show (93 : Int) = 91 from h91) (by decide)
          | cons c u =>
            rw [ho, List.cons_append] at et
            rw [et] at h91
            rw [show c = 91 from h91]; rfl
        unfold rinL at h
        obtain ⟨i1, i2, i3⟩ := headL_is 32 (o.1.drop 1)
        cases hw : rwhatL ((headL 32 (o.1.drop 1)).1.length + 1) (headL 32 (o.1.drop 1)).1 [] with
        | none => rw [hw] at h; cases h
        | some pq =>
          rw [hw] at h
          simp only at h
          have hW : ∀ e, (headL 32 (o.1.drop 1)).1.length < e → rwhatL e (headL 32 (o.1.drop 1)).1 [] = some pq := fun e he => by rw [← rwhatL_more _ _ _ e (Nat.lt_succ_self _) he]; exact hw
          by_cases c1 : (headL 32 (o.1.drop 1)).2.2 = true
          · rw [if_pos c1] at h
            split at h
            · cases h
            · rename_i c2
              have c2' := not_or.1 c2
              have c2'' := not_or.1 c2'.2
              have c40 := Decidable.not_not.1 c2''.1
              have c41 := Decidable.not_not.1 c2''.2
              have clen := c2'.1
              cases hr : rnamesL (((headL 32 (o.1.drop 1)).2.1.take ((headL 32 (o.1.drop 1)).2.1.length - 1)).drop 1).length.succ (((headL 32 (o.1.drop 1)).2.1.take ((headL 32 (o.1.drop 1)).2.1.length - 1)).drop 1) [] with
              | none => rw [hr] at h; cases h
              | some l =>
                rw [hr] at h
                simp only at h
                obtain ⟨d1, d2, d3, d4⟩ := rcut_to ht h
                obtain ⟨w, T, ws, L', e5, e6, h1, h2⟩ := rnamesL_to _ _ _ _ hr
                rw [List.nil_append] at e6
                generalize hli : (headL 32 (o.1.drop 1)).2.1 = list at *
                have e2 : list = 40 :: ((list.take (list.length - 1)).drop 1 ++ [41]) := by
                  have a1 := drop_rd list (list.length - 1) (by omega)
                  rw [c41, List.drop_eq_nil_of_le (show list.length ≤ list.length - 1 + 1 by omega)] at a1
                  have hp : 0 < (list.take (list.length - 1)).length := by rw [List.length_take]; omega
                  have a2 := drop_rd (list.take (list.length - 1)) 0 hp
                  rw [List.drop_zero] at a2
                  have a3 : rd (list.take (list.length - 1)) ((0 : Nat) : Int) = 40 := by
                    rw [rd_at _ _ hp, List.getElem_take, ← rd_at list 0 (by omega)]; exact c40
                  rw [a3] at a2
                  conv => lhs; rw [← List.take_append_drop (list.length - 1) list, a1, a2]
                  rfl
                refine ⟨(headL 32 (o.1.drop 1)).1, [32, 40] ++ (list.take (list.length - 1)).drop 1 ++ [41], o.2, ?_, by rw [d1, d2]; exact hW, .inl ⟨?_, _, rfl, ?_⟩, d4⟩
                · have e7 : o.1.drop 1 = (headL 32 (o.1.drop 1)).1 ++ 32 :: (40 :: ((list.take (list.length - 1)).drop 1 ++ [41])) := by
                    conv => lhs; rw [i2 c1, e2]
                  conv => lhs; rw [et, e1, e7]
                  simp
                · have hnm : x.nm.length ≠ 0 := by rw [d3, e6]; simp
                  cases hls : listed x.q with
                  | true => rfl
                  | false =>
                    rw [may_is] at hm
                    unfold headB at hm
                    rw [hls] at hm
                    simp [hnm] at hm
                · rw [d3]; exact ⟨w, T, ws, L', e6, e5, h1, h2⟩
          · rw [if_neg c1] at h
            obtain ⟨d1, d2, d3, d4⟩ := rcut_to ht h
            have c1' : (headL 32 (o.1.drop 1)).2.2 = false := by simpa using c1
            refine ⟨(headL 32 (o.1.drop 1)).1, [], o.2, ?_, by rw [d1, d2]; exact hW, .inr ⟨?_, rfl, d3⟩, d4⟩
            · conv => lhs; rw [et, e1, (i3 c1').1]
              simp
            · cases hls : listed x.q with
              | false => rfl
              | true =>
                rw [may_is] at hm
                unfold headB at hm
                rw [hls, d3] at hm
                simp at hm
      · rw [if_neg ht] at h; cases h
theorem out_same (t : List Int) : outL (parseL t) = outL (rparseL t) := by
  cases hp : parseL t with
  | some x =>
    have hr := ref_of ((prog_G t x).1 hp)
    rw [hr]
  | none =>
    cases hr : rparseL t with
    | none => rfl
    | some y =>
      show sec_none = if may y = true then _ else sec_none
      by_cases hm : may y = true
      · have := (prog_G t y).2 (ref_to hr hm)
        rw [hp] at this; cases this
      · rw [if_neg hm]
end Go.Proofs.YtbjbagocnnffaaaDoor.Sec
