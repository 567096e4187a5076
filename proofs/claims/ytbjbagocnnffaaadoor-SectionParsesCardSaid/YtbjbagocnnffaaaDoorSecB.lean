/- The document's printed functions tell what is said of lists. -/
import Derived.Test.YtbjbagocnnffaaaDoorSecL
import Derived.Test.YtbjbagocnnffaaaDoorChB
import Derived.Test.YtbjbagocnnffaaaDoorPx15
import Derived.Test.YtbjbagocnnffaaaDoorPx16
set_option linter.unusedVariables false
set_option linter.unusedSimpArgs false
set_option linter.unusedSectionVars false
namespace Go.Proofs.YtbjbagocnnffaaaDoor.Sec
open Go.RowKit Go.Proofs.YtbjbagocnnffaaaDoor.P Go.Proofs.YtbjbagocnnffaaaDoorW.PrintWords Go.Proofs.YtbjbagocnnffaaaDoorW.PrintLast Go.Proofs.YtbjbagocnnffaaaDoor.Aids Go.Proofs.YtbjbagocnnffaaaDoor.Chars
theorem ratom {c : Int} (h : 0 ≤ c ∧ c ≤ 255) : Ev (fun k => letterboxref01_Atom.f k c) (atm c) :=
  evk (fun k => letterboxref01_Atom.mono c k) 40 (of_bytes (p := fun c => letterboxref01_Atom.f 40 c = some (atm c)) (by decide +kernel) h)
theorem str_one (s : List Int) (i : Nat) (h : i < s.length) : (strOfNums s).extract i (i + 1) = strOfNums [rd s (i : Int)] := by
  rw [str_extract]
  congr 1
  rw [List.drop_take, drop_rd s i h, show i + 1 - i = 1 by omega]; rfl
theorem rquoted_l0 {s : List Int} (hb : byte s) (hl : s.length ≤ 1000000) (d : Nat) : ∀ (i : Nat) (acc : List Int), s.length - i ≤ d → i ≤ s.length → acc.length ≤ 2 * i + 1 →
    Ev (fun k => letterboxref07_Quoted.l0 k (strOfNums s) (strOfNums acc) (i : Int)) (strOfNums (acc ++ (esc (s.drop i) ++ [34]))) := by
  have stop : ∀ (i : Nat) (acc : List Int), s.length ≤ i → i ≤ s.length → acc.length ≤ 2 * i + 1 → Ev (fun k => letterboxref07_Quoted.l0 k (strOfNums s) (strOfNums acc) (i : Int)) (strOfNums (acc ++ (esc (s.drop i) ++ [34]))) := by
    intro i acc h1 h2 ha
    refine st (fun k => by rw [letterboxref07_Quoted.l0]) ?_
    simp only [strOfNums_size, show (⟨#[34]⟩ : ByteArray) = strOfNums [34] from rfl, str_append]
    refine no (by omega) (yes (by omega) (fin ?_))
    rw [List.drop_eq_nil_of_le h1]; rfl
  induction d with
  | zero => intro i acc hd hi ha; exact stop i acc (by omega) hi ha
  | succ d ih =>
    intro i acc hd hi ha
    rcases Nat.lt_or_ge i s.length with hlt | hge
    · have e1 := wr1 (i := i) (by omega)
      refine st (fun k => by rw [letterboxref07_Quoted.l0]) ?_
      rw [drop_rd s i hlt]
      simp only [strOfNums_size, str_bt _ hb, e1, Int.toNat_natCast, str_one s i hlt, show (⟨#[92]⟩ : ByteArray) = strOfNums [92] from rfl, str_append, esc]
      refine yes (by omega) (yes (by omega) ?_)
      by_cases h1 : rd s (i : Int) = 34
      · rw [if_pos (.inl h1)]
        refine yes h1 (yes (by omega) (yes (by omega) (yes (by omega) (yes ?_ (toE (ih (i + 1) _ (by omega) hlt ?_) ?_)))))
        · simp; omega
        · simp; omega
        · congr 1; simp
      · refine no h1 ?_
        by_cases h2 : rd s (i : Int) = 92
        · rw [if_pos (.inr h2)]
          refine yes h2 (yes (by omega) (yes (by omega) (yes (by omega) (yes ?_ (toE (ih (i + 1) _ (by omega) hlt ?_) ?_)))))
          · simp; omega
          · simp; omega
          · congr 1; simp
        · rw [if_neg (fun e => e.elim h1 h2)]
          refine no h2 (yes (by omega) (yes (by omega) (yes ?_ (toE (ih (i + 1) _ (by omega) hlt ?_) ?_))))
          · simp; omega
          · simp; omega
          · congr 1; simp
    · exact stop i acc hge hi ha
theorem rquoted {s : List Int} (hb : byte s) (hl : s.length ≤ 1000000) : Ev (fun k => letterboxref07_Quoted.f k (strOfNums s)) (strOfNums (34 :: (esc s ++ [34]))) := by
  unfold letterboxref07_Quoted.f
  exact rquoted_l0 hb hl s.length 0 [34] (by omega) (by omega) (by simp)
/-- a name's text, as it is put -/
theorem rname_l0 {s : List Int} (hb : byte s) (hl : s.length ≤ 1000000) (d : Nat) : ∀ (i : Nat) (ok : Bool), s.length - i ≤ d → i ≤ s.length →
    Ev (fun k => letterboxref15_name.l0 k (strOfNums s) ok (i : Int)) (strOfNums (if (ok && (s.drop i).all atm) = true then s else 34 :: (esc s ++ [34]))) := by
  induction d with
  | zero =>
    intro i ok hd hi
    refine st (fun k => by rw [letterboxref15_name.l0]) (no (by rw [strOfNums_size]; omega) ?_)
    rw [List.drop_eq_nil_of_le (by omega), List.all_nil, Bool.and_true]
    cases ok with
    | true => exact yes rfl (fin rfl)
    | false => exact no (by decide) (bnd (rquoted hb hl) (fin rfl))
  | succ d ih =>
    intro i ok hd hi
    rcases Nat.lt_or_ge i s.length with hlt | hge
    · refine st (fun k => by rw [letterboxref15_name.l0]) ?_
      have e1 := wr1 (i := i) (by omega)
      have hx := hb _ (rd_mem s i hlt)
      rw [drop_rd s i hlt, List.all_cons]
      simp only [strOfNums_size, str_bt _ hb, e1]
      refine yes (by omega) (yes (by omega) (bnd (ratom hx) ?_))
      cases ok with
      | true => exact yes rfl (toE (ih (i + 1) _ (by omega) hlt) (by simp))
      | false => exact no (by decide) (toE (ih (i + 1) _ (by omega) hlt) (by simp))
    · exact ih i ok (by omega) hi
theorem rname_ok {s : List Int} (hb : byte s) (hl : s.length ≤ 1000000) : Ev (fun k => letterboxref15_name.f k (strOfNums s)) (strOfNums (nameT s)) := by
  unfold letterboxref15_name.f
  have e : ((strOfNums s).toList != ([] : List UInt8)) = decide (s ≠ []) := by
    rw [Bool.eq_iff_iff, bne_iff_ne, decide_eq_true_iff]
    exact not_congr (str_toList_nil s)
  rw [e]
  refine toE (rname_l0 hb hl s.length 0 _ (by omega) (by omega)) ?_
  rw [List.drop_zero]
  unfold nameT
  congr 1
  by_cases h1 : s ≠ []
  · rw [decide_eq_true h1, Bool.true_and]
    by_cases h2 : s.all atm = true
    · rw [if_pos h2, if_pos ⟨h1, h2⟩]
    · rw [if_neg h2, if_neg (fun e => h2 e.2)]
  · rw [decide_eq_false h1, Bool.false_and, if_neg (by decide), if_neg (fun e => h1 e.1)]
/-! a head -/
theorem head_l0 {s : List Int} (hb : byte s) (hl : s.length ≤ 1000000) (z : Int) (d : Nat) : ∀ i : Nat, s.length - i ≤ d → i ≤ s.length →
    Ev (fun k => letterboxref15_head.l0 k (strOfNums s) z (i : Int)) (strOfNums (s.take i ++ (headL z (s.drop i)).1), strOfNums (headL z (s.drop i)).2.1, (headL z (s.drop i)).2.2) := by
  have stop : ∀ i : Nat, s.length ≤ i → Ev (fun k => letterboxref15_head.l0 k (strOfNums s) z (i : Int)) (strOfNums (s.take i ++ (headL z (s.drop i)).1), strOfNums (headL z (s.drop i)).2.1, (headL z (s.drop i)).2.2) := by
    intro i hi
    refine st (fun k => by rw [letterboxref15_head.l0]) (no (by rw [strOfNums_size]; omega) (fin ?_))
    rw [List.drop_eq_nil_of_le hi, List.take_of_length_le hi]
    simp [headL]; rfl
  induction d with
  | zero => intro i hd hi; exact stop i (by omega)
  | succ d ih =>
    intro i hd hi
    rcases Nat.lt_or_ge i s.length with hlt | hge
    · have e1 := wr1 (i := i) (by omega)
      refine st (fun k => by rw [letterboxref15_head.l0]) ?_
      rw [drop_rd s i hlt, headL]
      simp only [strOfNums_size, str_bt _ hb, e1, Int.toNat_natCast]
      refine yes (by omega) (yes (by omega) ?_)
      by_cases h : rd s (i : Int) = z
      · rw [if_pos h]
        refine yes h (yes (by omega) (yes (by omega) (yes (by omega) (fin ?_))))
        rw [str_ex0, ← strOfNums_size s, str_ex, List.append_nil]
      · rw [if_neg h]
        refine no h (toE (ih (i + 1) (by omega) hlt) ?_)
        have e2 : s.take (i + 1) = s.take i ++ [rd s (i : Int)] := by rw [List.take_succ_eq_append_getElem hlt, rd_at s i hlt]
        rw [e2]; simp
    · exact stop i hge
theorem head_ok {s : List Int} (hb : byte s) (hl : s.length ≤ 1000000) (z : Int) : Ev (fun k => letterboxref15_head.f k (strOfNums s) z) (strOfNums (headL z s).1, strOfNums (headL z s).2.1, (headL z s).2.2) := by
  unfold letterboxref15_head.f
  exact toE (head_l0 hb hl z s.length 0 (by omega) (by omega)) (by simp)
/-! what is asked for -/
def asW : Option (List Int × Int) → List Int × Int × List ByteArray × Bool × Int × Int × Bool
  | some o => (o.1, o.2, [], false, 0, 0, true)
  | none => ([], 0, [], false, 0, 0, false)
theorem rword (x : Nat) (h : x < 6) : letterboxref15_word.f (x : Int) = some (strOfNums (wordL x)) := by
  have : x = 0 ∨ x = 1 ∨ x = 2 ∨ x = 3 ∨ x = 4 ∨ x = 5 := by omega
  rcases this with rfl | rfl | rfl | rfl | rfl | rfl <;> rfl
theorem rfind_ok {s : List Int} (hb : byte s) (hl : s.length ≤ 1000000) (p : List Int) : Ev (fun k => letterboxref15_what.l1 k (strOfNums s) 1 p 0 false 0 0) (asW ((findL s).map fun (x : Nat) => (p, (x : Int)))) := by
  have step : ∀ (x : Nat) (R : List Int × Int × List ByteArray × Bool × Int × Int × Bool), x < 6 → (lows (wordL x) ≠ lows s → Ev (fun k => letterboxref15_what.l1 k (strOfNums s) ((x + 1 : Nat) : Int) p 0 false 0 0) R) → (lows (wordL x) = lows s → R = (p, (x : Int), [], false, 0, 0, true)) →
      Ev (fun k => letterboxref15_what.l1 k (strOfNums s) (x : Int) p 0 false 0 0) R := by
    intro x R hx h1 h2
    refine st (fun k => by rw [letterboxref15_what.l1]) (yes (by omega) ?_)
    have hw := word_is ⟨x, hx⟩
    have e1 := wr1 (i := x) (by omega)
    simp only [rword x hx, Option.bind_some, e1]
    refine bnd (rfolded (wordL x) hw.2.1 (by have := hw.2.2; simp only at this; omega)) (bnd (rfolded s hb hl) ?_)
    by_cases h : lows (wordL x) = lows s
    · exact yes (toList_eq (by rw [h])) (fin (h2 h).symm)
    · refine no (fun e => h ?_) (h1 h)
      have := toList_iff.1 e
      rwa [bytes_str _ (lows_byte hw.2.1), bytes_str _ (lows_byte hb)] at this
  have last : Ev (fun k => letterboxref15_what.l1 k (strOfNums s) ((6 : Nat) : Int) p 0 false 0 0) (asW none) := by
    refine st (fun k => by rw [letterboxref15_what.l1]) ?_
    exact no (by omega) (fin rfl)
  unfold findL
  refine step 1 _ (by decide) (fun h1 => ?_) (fun h1 => by rw [if_pos h1]; rfl)
  rw [if_neg h1]
  refine step 2 _ (by decide) (fun h2 => ?_) (fun h2 => by rw [if_pos h2]; rfl)
  rw [if_neg h2]
  refine step 3 _ (by decide) (fun h3 => ?_) (fun h3 => by rw [if_pos h3]; rfl)
  rw [if_neg h3]
  refine step 4 _ (by decide) (fun h4 => ?_) (fun h4 => by rw [if_pos h4]; rfl)
  rw [if_neg h4]
  refine step 5 _ (by decide) (fun h5 => ?_) (fun h5 => by rw [if_pos h5]; rfl)
  rw [if_neg h5]
  exact last
theorem rwhat_l0 (d : Nat) : ∀ (s p : List Int), byte s → s.length < d → s.length ≤ 1000 → p.length + s.length ≤ 2000 → Ev (fun k => letterboxref15_what.l0 k (strOfNums s) p 0 false 0 0) (asW (rwhatL d s p)) := by
  induction d with
  | zero => intro s p _ h; omega
  | succ d ih =>
    intro s p hb hd hl hp
    have body : ∀ c : Bool, c = headD s → Ev (fun k => letterboxref15_what.j1 k (strOfNums s) c p 0 false 0 0) (asW (rwhatL (d + 1) s p)) := by
      intro c hc
      refine st (fun k => by rw [letterboxref15_what.j1]) ?_
      rw [rwhatL]
      by_cases h : headD s = true
      · rw [if_pos h]
        refine yes (hc.trans h) (bnd (head_ok hb (by omega) 46) ?_)
        have b1 := headL_byte (z := 46) hb
        have l1 := headL_len 46 s
        obtain ⟨i1, i2, i3⟩ := headL_is 46 s
        refine bnd (rnumbered _ b1.1 (by omega)) ?_
        simp only
        by_cases hn : (number (headL 46 s).1).2 = true
        · refine yes hn ?_
          have hne := number_some hn
          have hpos : 0 < (headL 46 s).1.length := List.length_pos_iff.2 hne
          cases hm : (headL 46 s).2.2 with
          | true =>
            refine yes rfl ?_
            by_cases he : (headL 46 s).2.1 = []
            · rw [if_neg (fun e => e.2.elim (fun e => by cases e) (fun e => e he))]
              refine st (fun k => by rw [letterboxref15_what.j2]) ?_
              refine yes ?_ (fin rfl)
              rw [beq_iff_eq]; exact (str_toList_nil _).2 he
            · rw [if_pos ⟨hn, .inr he⟩, if_pos rfl]
              refine st (fun k => by rw [letterboxref15_what.j2]) ?_
              simp only [Option.bind_some]
              refine no ?_ (yes (by omega) (yes trivial ?_))
              · rw [beq_iff_eq]; exact fun e => he ((str_toList_nil _).1 e)
              · exact ih _ _ b1.2 (by omega) (by omega) (by simp; omega)
          | false =>
            rw [if_pos ⟨hn, .inl rfl⟩, if_neg (by decide)]
            refine no (by decide) ?_
            refine st (fun k => by rw [letterboxref15_what.j2]) ?_
            simp only [Option.bind_some]
            exact no (by decide) (yes (by omega) (no (by decide) (fin rfl)))
        · rw [if_neg (fun e => hn e.1)]
          refine no hn ?_
          refine st (fun k => by rw [letterboxref15_what.j2]) ?_
          exact yes rfl (fin rfl)
      · rw [if_neg h]
        refine no (fun e => h (hc.symm.trans e)) ?_
        by_cases he : s = []
        · rw [if_pos he]
          exact yes ((str_toList_nil _).2 he) (fin rfl)
        · rw [if_neg he]
          exact no (fun e => he ((str_toList_nil _).1 e)) (rfind_ok hb (by omega) p)
    refine st (fun k => by rw [letterboxref15_what.l0]) ?_
    by_cases he : s = []
    · exact yes ((str_toList_nil _).2 he) (body _ (by rw [he]; rfl))
    · refine no (fun e => he ((str_toList_nil _).1 e)) ?_
      simp only [strOfNums_size, str_bt _ hb]
      have hpos : 0 < s.length := List.length_pos_iff.2 he
      refine yes (by omega) ?_
      cases s with
      | nil => exact absurd rfl he
      | cons c t =>
        have e : rd (c :: t) 0 = c := rfl
        rw [e]
        by_cases h1 : c ≥ 48
        · refine yes h1 (body _ ?_)
          show decide (c ≤ 57) = dig c
          unfold dig; rw [decide_eq_true (show 48 ≤ c from h1), Bool.true_and]
        · refine no h1 (body _ ?_)
          show false = dig c
          unfold dig; rw [decide_eq_false (show ¬ 48 ≤ c from h1), Bool.false_and]
theorem rwhat_ok {s : List Int} (hb : byte s) (hl : s.length ≤ 1000) : Ev (fun k => letterboxref15_what.f k (strOfNums s)) (asW (rwhatL (s.length + 1) s [])) := by
  unfold letterboxref15_what.f
  exact rwhat_l0 _ s [] hb (Nat.lt_succ_self _) hl (by simp; omega)
/-! what the printed function tells -/
def asN : Option (List (List Int)) → List ByteArray × Bool
  | some l => (strs l, true)
  | none => ([], false)
theorem rj5 {s : List Int} (hb : byte s) (hl : s.length ≤ 100000) (d : Nat) (acc : List (List Int)) (w pre r : List Int) (hs : s = pre ++ r) (ha : acc.length ≤ 1000000)
    (ih : ∀ r', r.length = r'.length + 1 → byte r' → Ev (fun k => letterboxref15_names.l0 k (strOfNums r') (strs (acc ++ [w]))) (asN (rnamesL d r' (acc ++ [w])))) :
    Ev (fun k => letterboxref15_names.j5 k (strOfNums s) (strs acc) (pre.length : Int) (strOfNums w)) (asN (rnext d (rnamesL d) (acc ++ [w]) r)) := by
  refine st (fun k => by rw [letterboxref15_names.j5]) ?_
  have e0 : (strs acc ++ [strOfNums w]) = strs (acc ++ [w]) := by unfold strs; rw [List.map_append]; rfl
  have hlen := congrArg List.length hs
  rw [List.length_append] at hlen
  have hal : (strs acc).length = acc.length := by unfold strs; rw [List.length_map]
  simp only [Option.bind_some, e0, strOfNums_size]
  refine yes (by omega) ?_
  cases r with
  | nil =>
    rw [List.length_nil] at hlen
    exact yes (by omega) (fin rfl)
  | cons c r =>
    rw [List.length_cons] at hlen
    have e1 := wr1 (i := pre.length) (by omega)
    have e2 : rd s (pre.length : Int) = c := by rw [rd_at s _ (by omega)]; simp [hs]
    have e3 : s.drop (pre.length + 1) = r := by rw [hs, List.drop_append, Nat.add_sub_cancel_left, List.drop_eq_nil_of_le (by omega)]; rfl
    simp only [str_bt _ hb, e2, e1, Int.toNat_natCast]
    refine no (by omega) (yes (by omega) (yes (by omega) ?_))
    show Ev _ (asN (if c = 32 then rnamesL d r (acc ++ [w]) else none))
    by_cases hc : c = 32
    · rw [if_pos hc]
      refine yes hc (yes (by omega) (yes (by omega) ?_))
      rw [← strOfNums_size s, str_ex, e3]
      exact ih r rfl (fun x hx => hb x (by rw [hs]; exact List.mem_append_right _ (List.mem_cons_of_mem _ hx)))
    · rw [if_neg hc]
      exact no hc (fin rfl)
def rquo (s : List Int) (d : Nat) (acc : List (List Int)) : Option (List Int × List Int) → Option (List (List Int))
  | none => none
  | some o => if 34 :: (esc o.1 ++ [34]) = s.take (s.length - o.2.length) then rnext d (rnamesL d) (acc ++ [o.1]) o.2 else none
theorem rl1 {s : List Int} (hb : byte s) (hl : s.length ≤ 100000) (d : Nat) (acc : List (List Int))
    (hj : ∀ (w pre r : List Int), s = pre ++ r → pre ≠ [] → Ev (fun k => letterboxref15_names.j5 k (strOfNums s) (strs acc) (pre.length : Int) (strOfNums w)) (asN (rnext d (rnamesL d) (acc ++ [w]) r))) (m : Nat) :
    ∀ (i : Nat) (now : List Int), s.length - i < m → now.length ≤ i → byte now → i ≤ s.length + 1 → Ev (fun k => letterboxref15_names.l1 k (strOfNums s) (strs acc) (i : Int) (strOfNums now)) (asN (rquo s d acc (rscan m (s.drop i) now))) := by
  induction m with
  | zero => intro i now h; omega
  | succ m ih =>
    intro i now hm hn hbn hi
    refine st (fun k => by rw [letterboxref15_names.l1]) ?_
    rcases Nat.lt_or_ge i s.length with hlt | hge
    · have e1 := wr1 (i := i) (by omega)
      have hx := hb _ (rd_mem s i hlt)
      simp only [strOfNums_size, str_bt _ hb]
      refine yes (by omega) (yes (by omega) ?_)
      refine st (fun k => by rw [letterboxref15_names.j3]) ?_
      rw [drop_rd s i hlt, rscan_cons]
      simp only [strOfNums_size, str_bt _ hb, e1, Int.toNat_natCast]
      by_cases h1 : rd s (i : Int) = 34
      · rw [if_pos h1]
        refine no (by rw [h1]; decide) (no (by omega) (bnd (rquoted hbn (by omega)) (yes (by omega) (yes (by omega) ?_))))
        rw [str_ex0]
        have e2 : s.length - (s.drop (i + 1)).length = i + 1 := by rw [List.length_drop]; omega
        show Ev _ (asN (if 34 :: (esc now ++ [34]) = s.take (s.length - (s.drop (i + 1)).length) then rnext d (rnamesL d) (acc ++ [now]) (s.drop (i + 1)) else none))
        rw [e2]
        by_cases h2 : 34 :: (esc now ++ [34]) = s.take (i + 1)
        · rw [if_pos h2]
          refine yes (by rw [h2]) ?_
          have := hj now (s.take (i + 1)) (s.drop (i + 1)) (List.take_append_drop _ _).symm (by rw [← h2]; simp)
          rw [show (s.take (i + 1)).length = i + 1 by rw [List.length_take]; omega] at this
          exact this
        · rw [if_neg h2]
          refine no (fun e => h2 ?_) (fin rfl)
          have := toList_iff.1 e
          rwa [bytes_str _ (byte_cons (by omega) (byte_append (esc_byte hbn) (byte_one (by omega) (by omega)))), bytes_str _ (byte_take hb _)] at this
      · rw [if_neg h1]
        refine yes (by rw [bne_iff_ne]; exact h1) (yes (by omega) (yes (by omega) ?_))
        by_cases h2 : rd s (i : Int) = 92
        · rw [if_pos h2]
          refine yes h2 ?_
          have e2 := wr1 (i := i + 1) (by omega)
          simp only [e2]
          by_cases h3 : i + 1 < s.length
          · rw [drop_rd s (i + 1) h3]
            simp only
            have hx2 := hb _ (rd_mem s (i + 1) h3)
            simp only [Int.toNat_natCast, str_one s (i + 1) h3, str_append]
            refine yes (by omega) (yes (by omega) (yes (by omega) (yes (by omega) (yes ?_ ?_))))
            · (try simp only [strOfNums_size]); simp only [List.length_cons, List.length_nil]; omega
            · exact ih (i + 1 + 1) _ (by omega) (by simp; omega) (byte_append hbn (byte_one hx2.1 hx2.2)) (by omega)
          · rw [List.drop_eq_nil_of_le (by omega)]
            simp only
            refine no (by omega) (toE (ih (i + 1 + 1) now (by omega) (by omega) hbn (by omega)) ?_)
            rw [List.drop_eq_nil_of_le (by omega)]
            cases m <;> rfl
        · rw [if_neg h2]
          simp only [str_one s i hlt, str_append]
          refine no h2 (yes (by omega) (yes (by omega) (yes ?_ ?_)))
          · (try simp only [strOfNums_size]); simp only [List.length_cons, List.length_nil]; omega
          · exact ih (i + 1) _ (by omega) (by simp; omega) (byte_append hbn (byte_one hx.1 hx.2)) (by omega)
    · have e1 := wr1 (i := i) (by omega)
      refine no (by rw [strOfNums_size]; omega) ?_
      refine st (fun k => by rw [letterboxref15_names.j3]) ?_
      rw [List.drop_eq_nil_of_le hge]
      simp only [e1, strOfNums_size]
      exact no (by decide) (yes (by omega) (fin rfl))
theorem tw_at (q : Int → Bool) (s : List Int) (i : Nat) (h : i ≤ s.length) (h1 : ∀ j : Nat, j < i → q (rd s (j : Int)) = true) (h2 : i = s.length ∨ q (rd s (i : Int)) = false) : s.takeWhile q = s.take i ∧ s.dropWhile q = s.drop i := by
  have hs : stops q (s.drop i) := by
    intro c t e
    rcases h2 with h2 | h2
    · rw [List.drop_eq_nil_of_le (by omega)] at e; cases e
    · obtain ⟨_, e2, _⟩ := drop_cons e
      rw [← e2]; exact h2
  have ha : ∀ c ∈ s.take i, q c = true := by
    intro c hc
    obtain ⟨j, hj, rfl⟩ := List.getElem_of_mem hc
    rw [List.length_take] at hj
    rw [List.getElem_take]
    have := h1 j (by omega)
    rwa [rd_at s j (by omega)] at this
  have tw := tw_app ha hs
  rwa [List.take_append_drop] at tw
theorem rl2 {s : List Int} (hb : byte s) (hl : s.length ≤ 100000) (d : Nat) (acc : List (List Int))
    (hj : ∀ (w pre r : List Int), s = pre ++ r → pre ≠ [] → Ev (fun k => letterboxref15_names.j5 k (strOfNums s) (strs acc) (pre.length : Int) (strOfNums w)) (asN (rnext d (rnamesL d) (acc ++ [w]) r))) (m : Nat) :
    ∀ i : Nat, s.length - i ≤ m → i ≤ s.length → (∀ j : Nat, j < i → nsp (rd s (j : Int)) = true) → Ev (fun k => letterboxref15_names.l2 k (strOfNums s) (strs acc) (i : Int)) (asN (if nameT (s.takeWhile nsp) = s.takeWhile nsp then rnext d (rnamesL d) (acc ++ [s.takeWhile nsp]) (s.dropWhile nsp) else none)) := by
  have stop : ∀ i : Nat, i ≤ s.length → (s.takeWhile nsp = s.take i ∧ s.dropWhile nsp = s.drop i) → Ev (fun k => (letterboxref15_name.f k (strOfNums (s.take i))).bind fun t => if t.toList = (strOfNums (s.take i)).toList then letterboxref15_names.j5 k (strOfNums s) (strs acc) (i : Int) (strOfNums (s.take i)) else some (([] : List ByteArray), false)) (asN (if nameT (s.takeWhile nsp) = s.takeWhile nsp then rnext d (rnamesL d) (acc ++ [s.takeWhile nsp]) (s.dropWhile nsp) else none)) := by
    intro i hi htw
    rw [htw.1, htw.2]
    have hbt := byte_take hb i
    have hlt : (s.take i).length = i := by rw [List.length_take]; omega
    refine bnd (rname_ok hbt (by omega)) ?_
    have hbn : byte (nameT (s.take i)) := by
      unfold nameT; split
      · exact hbt
      · exact byte_cons (by omega) (byte_append (esc_byte hbt) (byte_one (by omega) (by omega)))
    by_cases hn : nameT (s.take i) = s.take i
    · rw [if_pos hn]
      refine yes (by rw [hn]) ?_
      have hne : s.take i ≠ [] := by
        intro e; rw [e] at hn; exact absurd hn (by decide)
      have := hj (s.take i) (s.take i) (s.drop i) (List.take_append_drop _ _).symm hne
      rwa [hlt] at this
    · rw [if_neg hn]
      refine no (fun e => hn ?_) (fin rfl)
      have := toList_iff.1 e
      rwa [bytes_str _ hbn, bytes_str _ hbt] at this
  induction m with
  | zero =>
    intro i hm hi hp
    refine st (fun k => by rw [letterboxref15_names.l2]) ?_
    simp only [strOfNums_size, Int.toNat_natCast, str_ex0]
    exact no (by omega) (yes (by omega) (yes (by omega) (stop i hi (tw_at nsp s i hi hp (.inl (by omega))))))
  | succ m ih =>
    intro i hm hi hp
    rcases Nat.lt_or_ge i s.length with hlt | hge
    · refine st (fun k => by rw [letterboxref15_names.l2]) ?_
      have e1 := wr1 (i := i) (by omega)
      simp only [strOfNums_size, Int.toNat_natCast, str_ex0, str_bt _ hb, e1]
      refine yes (by omega) (yes (by omega) ?_)
      by_cases h : rd s (i : Int) = 32
      · exact yes h (yes (by omega) (stop i hi (tw_at nsp s i hi hp (.inr (by rw [h]; decide)))))
      · refine no h (ih (i + 1) (by omega) hlt (fun j hj2 => ?_))
        by_cases e : j = i
        · subst e; unfold nsp; rw [decide_eq_true_iff]; exact h
        · exact hp j (by omega)
    · exact ih i (by omega) hi hp
theorem rnames_l0 (d : Nat) : ∀ (s : List Int) (acc : List (List Int)), byte s → s.length < d → s.length ≤ 100000 → acc.length + s.length ≤ 200000 → Ev (fun k => letterboxref15_names.l0 k (strOfNums s) (strs acc)) (asN (rnamesL d s acc)) := by
  induction d with
  | zero => intro s acc _ h; omega
  | succ d ih =>
    intro s acc hb hd hl ha
    have hj : ∀ (w pre r : List Int), s = pre ++ r → pre ≠ [] → Ev (fun k => letterboxref15_names.j5 k (strOfNums s) (strs acc) (pre.length : Int) (strOfNums w)) (asN (rnext d (rnamesL d) (acc ++ [w]) r)) := by
      intro w pre r hs hne
      have hpos : 0 < pre.length := List.length_pos_iff.2 hne
      have hlen := congrArg List.length hs
      rw [List.length_append] at hlen
      exact rj5 hb hl d acc w pre r hs (by omega) (fun r' hr' hb' => ih r' (acc ++ [w]) hb' (by omega) (by omega) (by simp; omega))
    have h2 := rl2 hb hl d acc hj s.length 0 (by omega) (by omega) (fun j hj => by omega)
    refine st (fun k => by rw [letterboxref15_names.l0]) ?_
    rw [rnamesL]
    cases s with
    | nil =>
      refine yes ((str_toList_nil _).2 rfl) ?_
      refine st (fun k => by rw [letterboxref15_names.j1]) ?_
      exact no (by decide) h2
    | cons c t =>
      refine no (fun e => by have := (str_toList_nil _).1 e; cases this) ?_
      simp only [strOfNums_size, str_bt _ hb]
      refine yes (by simp only [List.length_cons]; omega) ?_
      have e : rd (c :: t) 0 = c := rfl
      rw [e]
      refine st (fun k => by rw [letterboxref15_names.j1]) ?_
      by_cases hc : c = 34
      · refine yes (by rw [hc]; rfl) ?_
        rw [show cutp [34] (c :: t) = some t by rw [cutp, if_pos hc.symm]; rfl]
        simp only
        have := rl1 hb hl d acc hj (t.length + 1) 1 [] (by simp) (by simp) byte_nil (by simp)
        refine toE this ?_
        show asN (rquo (c :: t) d acc (rscan (t.length + 1) t [])) = _
        cases rscan (t.length + 1) t [] <;> rfl
      · refine no (by rw [beq_iff_eq]; exact hc) ?_
        rw [show cutp [34] (c :: t) = none by rw [cutp, if_neg (Ne.symm hc)]]
        exact h2
theorem rnames_ok {s : List Int} (hb : byte s) (hl : s.length ≤ 100000) : Ev (fun k => letterboxref15_names.f k (strOfNums s)) (asN (rnamesL (s.length + 1) s [])) := by
  unfold letterboxref15_names.f
  exact rnames_l0 _ s [] hb (Nat.lt_succ_self _) hl (by simp; omega)
/-! the last byte of a kind -/
def lastI (z : Int) (s : List Int) : Int := match lastL z s with | some o => (o.1.length : Int) | none => -1
theorem last_l0 {s : List Int} (hb : byte s) (hl : s.length ≤ 1000000) (z : Int) (n : Nat) : n ≤ s.length → Ev (fun k => letterboxref15_last.l0 k (strOfNums s) z ((n : Int) - 1)) (lastI z (s.take n)) := by
  induction n with
  | zero =>
    intro _
    refine st (fun k => by rw [letterboxref15_last.l0]) ?_
    exact no (by omega) (fin rfl)
  | succ n ih =>
    intro hn
    refine st (fun k => by rw [letterboxref15_last.l0]) ?_
    have e1 : (((n + 1 : Nat) : Int) - 1) = (n : Int) := by omega
    have e2 : wrap64 ((n : Int) - 1) = (n : Int) - 1 := w64 (by omega) (by omega)
    have e3 : s.take (n + 1) = s.take n ++ [rd s (n : Int)] := by rw [List.take_succ_eq_append_getElem hn, rd_at s n hn]
    simp only [e1, e2, strOfNums_size, str_bt _ hb]
    rw [e3]
    unfold lastI
    rw [lastL_snoc]
    refine yes (by omega) (yes (by omega) (yes (by omega) ?_))
    by_cases h : rd s (n : Int) = z
    · rw [if_pos h]
      refine yes h (fin ?_)
      simp only [List.length_take]; omega
    · rw [if_neg h]
      refine no h (toE (ih (by omega)) ?_)
      unfold lastI
      cases lastL z (s.take n) <;> rfl
theorem last_ok2 {s : List Int} (hb : byte s) (hl : s.length ≤ 1000000) (z : Int) : Ev (fun k => letterboxref15_last.f k (strOfNums s) z) (lastI z s) := by
  unfold letterboxref15_last.f
  have := last_l0 hb hl z s.length (Nat.le_refl _)
  rw [List.take_length] at this
  rw [strOfNums_size, w64 (by omega) (by omega)]
  exact this
/-! whether a spec may be -/
section
variable (x : Sp) (hb : ∀ n ∈ x.nm, byte n) (hn : ∀ n ∈ x.nm, n.length ≤ 1000000) (h1 : x.p.length ≤ 1000000) (h2 : x.nm.length ≤ 1000000)
include hb hn h1 h2
theorem rcheck_l1 (d : Nat) : ∀ i : Nat, x.nm.length - i ≤ d → i ≤ x.nm.length → Ev (fun k => letterboxref15_Check.l1 k (i : Int) x.p x.q (strs x.nm) x.cut x.fr x.mn) (if ((x.nm.drop i).all (·.all pr) && cutB x) = true then 0 else 1) := by
  have hlen : (strs x.nm).length = x.nm.length := by unfold strs; rw [List.length_map]
  induction d with
  | zero =>
    intro i hd hi
    have e : i = x.nm.length := by omega
    subst e
    refine st (fun k => by rw [letterboxref15_Check.l1]) ?_
    rw [List.drop_eq_nil_of_le (Nat.le_refl _), List.all_nil, Bool.true_and]
    refine no (by omega) ?_
    unfold cutB within
    cases x.cut with
    | true =>
      refine yes rfl ?_
      by_cases c1 : x.fr < 0
      · exact yes c1 (fin (by simp [show ¬ 0 ≤ x.fr by omega]))
      · refine no c1 ?_
        by_cases c2 : x.fr > 4294967295
        · exact yes c2 (fin (by simp [show ¬ x.fr ≤ 4294967295 by omega]))
        · refine no c2 ?_
          by_cases c3 : x.mn < 1
          · exact yes c3 (fin (by simp [show ¬ 1 ≤ x.mn by omega]))
          · refine no c3 ?_
            by_cases c4 : x.mn > 4294967295
            · exact yes c4 (fin (by simp [show ¬ x.mn ≤ 4294967295 by omega]))
            · exact no c4 (fin (by simp [show 0 ≤ x.fr by omega, show x.fr ≤ 4294967295 by omega, show 1 ≤ x.mn by omega, show x.mn ≤ 4294967295 by omega]))
    | false =>
      refine no (by decide) ?_
      by_cases c1 : x.fr = 0
      · refine yes c1 ?_
        by_cases c2 : x.mn = 0
        · exact yes c2 (fin (by simp [c1, c2]))
        · exact no c2 (fin (by simp [c1, c2]))
      · exact no c1 (fin (by simp [c1]))
  | succ d ih =>
    intro i hd hi
    rcases Nat.lt_or_ge i x.nm.length with hlt | hge
    · have e0 : i ≤ 1000000 := by omega
      have hbi := hb _ (List.getElem_mem hlt)
      have hni := hn _ (List.getElem_mem hlt)
      have inner : ∀ (m j : Nat), x.nm[i].length - j ≤ m → j ≤ x.nm[i].length → Ev (fun k => letterboxref15_Check.l2 k (i : Int) (j : Int) x.p x.q (strs x.nm) x.cut x.fr x.mn) (if ((x.nm[i].drop j).all pr && ((x.nm.drop (i + 1)).all (·.all pr) && cutB x)) = true then 0 else 1) := by
        intro m
        induction m with
        | zero =>
          intro j hm hj
          refine st (fun k => by rw [letterboxref15_Check.l2]) ?_
          simp only [strs_at _ i hlt, strOfNums_size, hlen, wr1 e0]
          rw [List.drop_eq_nil_of_le (by omega), List.all_nil, Bool.true_and]
          exact yes (by omega) (yes (by omega) (no (by omega) (ih (i + 1) (by omega) hlt)))
        | succ m ihm =>
          intro j hm hj
          rcases Nat.lt_or_ge j x.nm[i].length with hj2 | hj2
          · have e2 := wr1 (i := j) (by omega)
            refine st (fun k => by rw [letterboxref15_Check.l2]) ?_
            simp only [strs_at _ i hlt, strOfNums_size, hlen, str_bt _ hbi, e2]
            clear e2
            rw [drop_rd x.nm[i] j hj2, List.all_cons]
            refine yes (by omega) (yes (by omega) (yes (by omega) (yes (by omega) ?_)))
            by_cases c1 : rd x.nm[i] (j : Int) < 32
            · refine yes c1 (fin ?_)
              unfold pr; rw [decide_eq_false (show ¬ 32 ≤ rd x.nm[i] (j : Int) by omega)]; simp
            · refine no c1 ?_
              by_cases c2 : rd x.nm[i] (j : Int) > 126
              · refine yes c2 (fin ?_)
                unfold pr; rw [decide_eq_false (show ¬ rd x.nm[i] (j : Int) ≤ 126 by omega)]; simp
              · refine no c2 (toE (ihm (j + 1) (by omega) hj2) ?_)
                rw [show pr (rd x.nm[i] (j : Int)) = true by unfold pr; rw [decide_eq_true (show 32 ≤ rd x.nm[i] (j : Int) by omega), decide_eq_true (show rd x.nm[i] (j : Int) ≤ 126 by omega)]; rfl, Bool.true_and]
          · exact ihm j (by omega) hj
      refine st (fun k => by rw [letterboxref15_Check.l1]) ?_
      rw [List.drop_eq_getElem_cons hlt, List.all_cons]
      refine yes (by omega) (toE (inner x.nm[i].length 0 (by omega) (by omega)) ?_)
      rw [List.drop_zero, Bool.and_assoc]
    · exact ih i (by omega) hi
theorem rcheck_l0 (d : Nat) : ∀ i : Nat, x.p.length - i ≤ d → i ≤ x.p.length → Ev (fun k => letterboxref15_Check.l0 k (i : Int) x.p x.q (strs x.nm) x.cut x.fr x.mn) (if ((x.p.drop i).all (within · 1) && (x.nm.all (·.all pr) && cutB x)) = true then 0 else 1) := by
  have stop : ∀ i : Nat, x.p.length ≤ i → Ev (fun k => letterboxref15_Check.l0 k (i : Int) x.p x.q (strs x.nm) x.cut x.fr x.mn) (if ((x.p.drop i).all (within · 1) && (x.nm.all (·.all pr) && cutB x)) = true then 0 else 1) := by
    intro i hi
    refine st (fun k => by rw [letterboxref15_Check.l0]) ?_
    rw [List.drop_eq_nil_of_le hi, List.all_nil, Bool.true_and]
    have := rcheck_l1 x hb hn h1 h2 x.nm.length 0 (by omega) (by omega)
    rw [List.drop_zero] at this
    exact no (by omega) this
  induction d with
  | zero => intro i hd hi; exact stop i (by omega)
  | succ d ih =>
    intro i hd hi
    rcases Nat.lt_or_ge i x.p.length with hlt | hge
    · have e1 := wr1 (i := i) (by omega)
      refine st (fun k => by rw [letterboxref15_Check.l0]) ?_
      simp only [e1]
      rw [drop_rd x.p i hlt, List.all_cons]
      refine yes (by omega) (yes (by omega) ?_)
      by_cases c1 : rd x.p (i : Int) < 1
      · refine yes c1 (fin ?_)
        unfold within; rw [decide_eq_false (show ¬ 1 ≤ rd x.p (i : Int) by omega)]; simp
      · refine no c1 ?_
        by_cases c2 : rd x.p (i : Int) > 4294967295
        · refine yes c2 (fin ?_)
          unfold within; rw [decide_eq_false (show ¬ rd x.p (i : Int) ≤ 4294967295 by omega)]; simp
        · refine no c2 (toE (ih (i + 1) (by omega) hlt) ?_)
          rw [show within (rd x.p (i : Int)) 1 = true by unfold within; rw [decide_eq_true (show 1 ≤ rd x.p (i : Int) by omega), decide_eq_true (show rd x.p (i : Int) ≤ 4294967295 by omega)]; rfl, Bool.true_and]
    · exact stop i hge
theorem rcheck_j1 (bad : Bool) : Ev (fun k => letterboxref15_Check.j1 k bad x.p x.q (strs x.nm) x.cut x.fr x.mn) (if (!bad && (x.p.all (within · 1) && (x.nm.all (·.all pr) && cutB x))) = true then 0 else 1) := by
  refine st (fun k => by rw [letterboxref15_Check.j1]) ?_
  cases bad with
  | true => exact yes rfl (fin rfl)
  | false =>
    have := rcheck_l0 x hb hn h1 h2 x.p.length 0 (by omega) (by omega)
    rw [List.drop_zero] at this
    exact no (by decide) this
theorem rcheck_ok : Ev (fun k => letterboxref15_Check.f k x.p x.q (strs x.nm) x.cut x.fr x.mn) (if may x = true then 0 else 1) := by
  have hlen : (strs x.nm).length = x.nm.length := by unfold strs; rw [List.length_map]
  have key : ∀ bad : Bool, headB x = !bad → Ev (fun k => letterboxref15_Check.j1 k bad x.p x.q (strs x.nm) x.cut x.fr x.mn) (if may x = true then 0 else 1) := by
    intro bad h
    rw [may_is, h]
    exact rcheck_j1 x hb hn h1 h2 bad
  have body : ∀ c : Bool, c = listed x.q → Ev (fun k => letterboxref15_Check.j0 k c x.p x.q (strs x.nm) x.cut x.fr x.mn) (if may x = true then 0 else 1) := by
    intro c hc
    refine st (fun k => by rw [letterboxref15_Check.j0]) ?_
    simp only [hlen]
    have names : ∀ (A : Prop) [Decidable A], A → headB x = (if listed x.q then decide (1 ≤ x.nm.length) && decide (x.nm.length ≤ 100) else decide (x.nm.length = 0)) → Ev (fun k => if c = true then (if (x.nm.length : Int) < 1 then letterboxref15_Check.j1 k true x.p x.q (strs x.nm) x.cut x.fr x.mn else (if (x.nm.length : Int) > 100 then letterboxref15_Check.j1 k true x.p x.q (strs x.nm) x.cut x.fr x.mn else letterboxref15_Check.j1 k false x.p x.q (strs x.nm) x.cut x.fr x.mn)) else letterboxref15_Check.j1 k (decide ((x.nm.length : Int) > 0)) x.p x.q (strs x.nm) x.cut x.fr x.mn) (if may x = true then 0 else 1) := by
      intro A _ _ hh
      cases hls : listed x.q with
      | true =>
        rw [hls, if_pos rfl] at hh
        refine yes (hc.trans hls) ?_
        by_cases c1 : (x.nm.length : Int) < 1
        · exact yes c1 (key true (by rw [hh, decide_eq_false (show ¬ 1 ≤ x.nm.length by omega)]; rfl))
        · refine no c1 ?_
          by_cases c2 : (x.nm.length : Int) > 100
          · exact yes c2 (key true (by rw [hh, decide_eq_false (show ¬ x.nm.length ≤ 100 by omega), Bool.and_false]; rfl))
          · exact no c2 (key false (by rw [hh, decide_eq_true (show 1 ≤ x.nm.length by omega), decide_eq_true (show x.nm.length ≤ 100 by omega)]; rfl))
      | false =>
        rw [hls, if_neg (by decide)] at hh
        refine no (by rw [hc, hls]; decide) (key _ ?_)
        rw [hh, Bool.eq_iff_iff]; simp
    by_cases c1 : x.q < 0
    · exact yes c1 (key true (by unfold headB; rw [decide_eq_false (show ¬ 0 ≤ x.q by omega)]; simp))
    · refine no c1 ?_
      by_cases c2 : x.q > 5
      · exact yes c2 (key true (by unfold headB; rw [decide_eq_false (show ¬ x.q ≤ 5 by omega)]; simp))
      · refine no c2 ?_
        by_cases c3 : (x.p.length : Int) > 64
        · exact yes c3 (key true (by unfold headB; rw [decide_eq_false (show ¬ x.p.length ≤ 64 by omega)]; simp))
        · refine no c3 ?_
          by_cases c4 : x.q = 5
          · refine yes c4 ?_
            by_cases c5 : (x.p.length : Int) = 0
            · exact yes c5 (key true (by unfold headB; rw [decide_eq_false (show ¬ 0 < x.p.length by omega), decide_eq_false (show ¬ x.q ≠ 5 from fun h => h c4)]; simp))
            · exact no c5 (names True trivial (by unfold headB; rw [decide_eq_true (show x.p.length ≤ 64 by omega), decide_eq_true (show 0 ≤ x.q by omega), decide_eq_true (show x.q ≤ 5 by omega), decide_eq_true (show 0 < x.p.length by omega)]; simp))
          · exact no c4 (names True trivial (by unfold headB; rw [decide_eq_true (show x.p.length ≤ 64 by omega), decide_eq_true (show 0 ≤ x.q by omega), decide_eq_true (show x.q ≤ 5 by omega), decide_eq_true (show x.q ≠ 5 from c4)]; simp))
  unfold letterboxref15_Check.f
  by_cases h : x.q = 2
  · exact yes h (body true (by unfold listed; rw [decide_eq_true h]; rfl))
  · refine no h (body _ ?_)
    unfold listed
    rw [decide_eq_false h, Bool.false_or, Bool.eq_iff_iff]; simp
end
/-! are two the same -/
theorem same_ok (p : List Int) (q : Int) (nm : List ByteArray) (cut : Bool) (fr mn : Int) (h1 : p.length ≤ 1000000) (h2 : nm.length ≤ 1000000) : Ev (fun k => letterboxref15_Same.f k p q nm cut fr mn p q nm cut fr mn) true := by
  have l1 : ∀ (d i : Nat), nm.length - i ≤ d → i ≤ nm.length → Ev (fun k => letterboxref15_Same.l1 k (i : Int) p q nm cut fr mn p q nm cut fr mn) true := by
    intro d
    induction d with
    | zero =>
      intro i hd hi
      refine st (fun k => by rw [letterboxref15_Same.l1]) ?_
      exact no (by omega) (fin rfl)
    | succ d ih =>
      intro i hd hi
      rcases Nat.lt_or_ge i nm.length with hlt | hge
      · refine st (fun k => by rw [letterboxref15_Same.l1]) ?_
        have e1 := wr1 (i := i) (by omega)
        simp only [e1]
        exact yes (by omega) (yes (by omega) (yes (by omega) (yes trivial (ih (i + 1) (by omega) hlt))))
      · exact ih i (by omega) hi
  have l0 : ∀ (d i : Nat), p.length - i ≤ d → i ≤ p.length → Ev (fun k => letterboxref15_Same.l0 k (i : Int) p q nm cut fr mn p q nm cut fr mn) true := by
    intro d
    induction d with
    | zero =>
      intro i hd hi
      refine st (fun k => by rw [letterboxref15_Same.l0]) ?_
      exact no (by omega) (l1 nm.length 0 (by omega) (by omega))
    | succ d ih =>
      intro i hd hi
      rcases Nat.lt_or_ge i p.length with hlt | hge
      · refine st (fun k => by rw [letterboxref15_Same.l0]) ?_
        have e1 := wr1 (i := i) (by omega)
        simp only [e1]
        exact yes (by omega) (yes (by omega) (yes (by omega) (yes trivial (ih (i + 1) (by omega) hlt))))
      · exact ih i (by omega) hi
  unfold letterboxref15_Same.f
  refine yes rfl (no (by simp) (yes rfl (yes rfl (yes rfl ?_))))
  refine st (fun k => by rw [letterboxref15_Same.j0]) ?_
  exact no (by simp) (l0 p.length 0 (by omega) (by omega))
theorem wl1 {n : Nat} (h : 1 ≤ n) (h2 : n ≤ 1000000) : wrap64 ((n : Int) - 1) = ((n - 1 : Nat) : Int) := by rw [w64 (by omega) (by omega)]; omega
theorem rcut_ok {p : List Int} {q : Int} {nm : List (List Int)} {tl : List Int} (hb : byte tl) (hl : tl.length ≤ 1000) (ht : tailOk tl) (hnb : ∀ n ∈ nm, byte n) (hnl : ∀ n ∈ nm, n.length ≤ 1000000) (hpl : p.length ≤ 1000000) (hml : nm.length ≤ 1000000) :
    Ev (fun k => letterboxref15_Parse.j3 k (strOfNums tl) p q (strs nm) false 0 0) (outL (rcutL p q nm tl)) := by
  refine st (fun k => by rw [letterboxref15_Parse.j3]) ?_
  unfold rcutL
  by_cases he : tl = []
  · rw [if_pos he, outL]
    refine yes ((str_toList_nil _).2 he) (bnd (rcheck_ok ⟨p, q, nm, false, 0, 0⟩ hnb hnl hpl hml) ?_)
    by_cases hm : may ⟨p, q, nm, false, 0, 0⟩ = true
    · rw [if_pos hm, if_pos hm]; exact yes rfl (fin rfl)
    · rw [if_neg hm, if_neg hm]; exact no (by decide) (fin rfl)
  · rw [if_neg he]
    refine no (fun e => he ((str_toList_nil _).1 e)) ?_
    have h5 : 5 ≤ tl.length := ht.elim (fun e => absurd e he) (fun e => e.1)
    simp only [strOfNums_size, wl1 (show 1 ≤ tl.length by omega) (show tl.length ≤ 1000000 by omega), Int.toNat_natCast]
    refine yes (by omega) (yes (by omega) ?_)
    rw [str_extract]
    generalize hin : (tl.take (tl.length - 1)).drop 1 = inner
    have hib : byte inner := by rw [← hin]; exact byte_drop (byte_take hb _) _
    have hil : inner.length ≤ 1000 := by rw [← hin, List.length_drop, List.length_take]; omega
    have b1 := headL_byte (z := 46) hib
    have l1 := headL_len 46 inner
    refine bnd (head_ok hib (by omega) 46) (bnd (rnumbered _ b1.1 (by omega)) (bnd (rnumbered _ b1.2 (by omega)) ?_))
    simp only
    have j4 : ∀ (c : Bool) (n m : Int), Ev (fun k => letterboxref15_Parse.j4 k n m c p q (strs nm) false 0 0) (outL (if c = true then none else some ⟨p, q, nm, true, n, m⟩)) := by
      intro c n m
      refine st (fun k => by rw [letterboxref15_Parse.j4]) ?_
      cases c with
      | true => exact yes rfl (fin rfl)
      | false =>
        refine no (by decide) (bnd (rcheck_ok ⟨p, q, nm, true, n, m⟩ hnb hnl hpl hml) ?_)
        show Ev _ (if may ⟨p, q, nm, true, n, m⟩ = true then (p, q, strs nm, true, n, m, 0) else sec_none)
        by_cases hm : may ⟨p, q, nm, true, n, m⟩ = true
        · rw [if_pos hm, if_pos hm]; exact yes rfl (fin rfl)
        · rw [if_neg hm, if_neg hm]; exact no (by decide) (fin rfl)
    by_cases c1 : (headL 46 inner).2.2 = true
    · refine yes c1 ?_
      by_cases c2 : (number (headL 46 inner).1).2 = true
      · refine yes c2 ?_
        refine toE (j4 (!(number (headL 46 inner).2.1).2) _ _) ?_
        cases c3 : (number (headL 46 inner).2.1).2 with
        | true => rw [if_neg (by decide), if_pos ⟨c1, c2, rfl⟩]
        | false => rw [show (!false) = true from rfl, if_pos rfl, if_neg (fun e => by cases e.2.2)]
      · refine no c2 (toE (j4 true _ _) ?_)
        rw [if_pos rfl, if_neg (fun e => c2 e.2.1)]
    · refine no c1 (toE (j4 true _ _) ?_)
      rw [if_pos rfl, if_neg (fun e => c1 e.1)]
theorem rnamesL_bl (d : Nat) {s : List Int} (hb : byte s) {l : List (List Int)} (h : rnamesL d s [] = some l) : (∀ n ∈ l, byte n ∧ n.length ≤ s.length) ∧ l.length ≤ s.length + 1 := by
  have nlt : ∀ {ws : List (List Int)} {L : List Int}, NLt ws L → byte L → (∀ n ∈ ws, byte n ∧ n.length ≤ L.length) ∧ ws.length ≤ L.length := by
    intro ws L hN
    induction hN with
    | nil => intro _; exact ⟨(fun n hn => by cases hn), Nat.le_refl _⟩
    | more h1 h2 ih =>
      rename_i w T L ws
      intro hb
      have hbT : byte T := fun c hc => hb c (List.mem_cons_of_mem _ (List.mem_append_left _ hc))
      have hbL : byte L := fun c hc => hb c (List.mem_cons_of_mem _ (List.mem_append_right _ hc))
      obtain ⟨i1, i2⟩ := ih hbL
      have hw : byte w ∧ w.length ≤ T.length := by
        rcases h1 with ⟨rfl, _, _⟩ | rfl
        · exact ⟨hbT, Nat.le_refl _⟩
        · have sub : ∀ u : List Int, (∀ c ∈ u, c ∈ esc u) ∧ u.length ≤ (esc u).length := by
            intro u
            induction u with
            | nil => exact ⟨(fun c hc => by cases hc), Nat.le_refl _⟩
            | cons c u ih =>
              rw [esc]
              split
              · refine ⟨fun x hx => ?_, by simp; omega⟩
                rcases List.mem_cons.1 hx with rfl | hx
                · simp
                · exact List.mem_cons_of_mem _ (List.mem_cons_of_mem _ (ih.1 x hx))
              · refine ⟨fun x hx => ?_, by simp; omega⟩
                rcases List.mem_cons.1 hx with rfl | hx
                · simp
                · exact List.mem_cons_of_mem _ (ih.1 x hx)
          have := sub w
          exact ⟨fun c hc => hbT c (List.mem_cons_of_mem _ (List.mem_append_left _ (this.1 c hc))), by simp; omega⟩
      refine ⟨fun n hn => ?_, by simp; omega⟩
      rcases List.mem_cons.1 hn with rfl | hn
      · exact ⟨hw.1, by simp; omega⟩
      · have := i1 n hn; exact ⟨this.1, by simp; omega⟩
  obtain ⟨w, T, ws, L, rfl, rfl, h1, h2⟩ := rnamesL_to d _ _ _ h
  have := nlt (.more h1 h2) (byte_cons (by omega) hb)
  rw [List.nil_append]
  have n1 : NLt (w :: ws) (32 :: (T ++ L)) := .more h1 h2
  refine ⟨fun n hn => ?_, by have := this.2; simp at this ⊢; omega⟩
  have h3 := this.1 n hn
  refine ⟨h3.1, ?_⟩
  rcases List.mem_cons.1 hn with rfl | hn
  · rcases h1 with ⟨rfl, _, _⟩ | rfl
    · simp
    · have : ∀ u : List Int, u.length ≤ (esc u).length := by
        intro u
        induction u with
        | nil => simp
        | cons c u ih => rw [esc]; split <;> simp <;> omega
      have := this n; simp; omega
  · have := (nlt h2 (fun c hc => hb c (List.mem_append_right _ hc))).1 n hn; simp; omega
theorem rwhatL_plen (d : Nat) : ∀ (s p : List Int) (o : List Int × Int), rwhatL d s p = some o → o.1.length ≤ p.length + s.length := by
  induction d with
  | zero => intro s p o h; simp [rwhatL] at h
  | succ d ih =>
    intro s p o h
    rw [rwhatL] at h
    by_cases hd : headD s = true
    · rw [if_pos hd] at h
      by_cases hn : (number (headL 46 s).1).2 = true ∧ ((headL 46 s).2.2 = false ∨ (headL 46 s).2.1 ≠ [])
      · rw [if_pos hn] at h
        have hpos : 0 < (headL 46 s).1.length := List.length_pos_iff.2 (number_some hn.1)
        have l1 := headL_len 46 s
        by_cases hm : (headL 46 s).2.2 = true
        · rw [if_pos hm] at h
          have := ih _ _ _ h
          simp at this; omega
        · rw [if_neg hm] at h
          obtain rfl := Option.some.inj h
          simp; omega
      · rw [if_neg hn] at h; cases h
    · rw [if_neg hd] at h
      by_cases he : s = []
      · rw [if_pos he] at h; obtain rfl := Option.some.inj h; simp
      · rw [if_neg he] at h
        cases hf : findL s with
        | none => rw [hf] at h; cases h
        | some x => rw [hf] at h; obtain rfl := Option.some.inj (show some (p, (x : Int)) = some o from h); simp
theorem rin_ok {inside tl : List Int} (hb : byte inside) (hl : inside.length ≤ 900) (hbt : byte tl) (hlt : tl.length ≤ 900) (ht : tailOk tl) :
    Ev (fun k => letterboxref15_Parse.j1 k (strOfNums inside) (strOfNums tl)) (outL (rinL inside tl)) := by
  refine st (fun k => by rw [letterboxref15_Parse.j1]) ?_
  have b1 := headL_byte (z := 32) hb
  have l1 := headL_len 32 inside
  refine bnd (head_ok hb (by omega) 32) (bnd (rwhat_ok b1.1 (by omega)) ?_)
  unfold rinL
  generalize (headL 32 inside).1 = front at b1 l1 ⊢
  generalize (headL 32 inside).2.1 = list at b1 l1 ⊢
  cases hw : rwhatL (front.length + 1) front [] with
  | none => exact no (by decide) (fin rfl)
  | some o =>
    have hpl := rwhatL_plen _ _ _ _ hw
    rw [List.length_nil, Nat.zero_add] at hpl
    simp only [asW]
    refine yes trivial ?_
    have noNames : Ev (fun k => letterboxref15_Parse.j3 k (strOfNums tl) o.1 o.2 [] false 0 0) (outL (rcutL o.1 o.2 [] tl)) :=
      rcut_ok (nm := []) hbt (by omega) ht (fun n hn => by cases hn) (fun n hn => by cases hn) (by omega) (by simp)
    by_cases c1 : (headL 32 inside).2.2 = true
    · rw [if_pos c1]
      refine yes c1 ?_
      have bad : Ev (fun k => letterboxref15_Parse.j2 k (strOfNums tl) (strOfNums list) true o.1 o.2 [] false 0 0) sec_none := by
        refine st (fun k => by rw [letterboxref15_Parse.j2]) ?_
        exact yes rfl (fin rfl)
      simp only [strOfNums_size, str_bt _ b1.2]
      by_cases c2 : list.length < 2
      · rw [if_pos (.inl c2)]
        exact yes (by omega) bad
      · refine no (by omega) (yes (by omega) ?_)
        by_cases c3 : rd list 0 = 40
        · refine yes c3 ?_
          simp only [wl1 (show 1 ≤ list.length by omega) (show list.length ≤ 1000000 by omega)]
          refine yes (by omega) (yes (by omega) ?_)
          by_cases c4 : rd list ((list.length - 1 : Nat) : Int) = 41
          · rw [if_neg (fun e => e.elim c2 (fun e => e.elim (fun e => e c3) (fun e => e c4)))]
            have e0 : (rd list ((list.length - 1 : Nat) : Int) != 41) = false := by rw [c4]; rfl
            rw [e0]
            refine st (fun k => by rw [letterboxref15_Parse.j2]) ?_
            simp only [strOfNums_size, wl1 (show 1 ≤ list.length by omega) (show list.length ≤ 1000000 by omega), Int.toNat_natCast]
            refine no (by decide) (yes (by omega) (yes (by omega) ?_))
            rw [str_extract]
            generalize hin : (list.take (list.length - 1)).drop 1 = inner
            have hib : byte inner := by rw [← hin]; exact byte_drop (byte_take b1.2 _) _
            have hil : inner.length ≤ 900 := by rw [← hin, List.length_drop, List.length_take]; omega
            refine bnd (rnames_ok hib (by omega)) ?_
            cases hr : rnamesL (inner.length + 1) inner [] with
            | none => exact no (by decide) (fin rfl)
            | some l =>
              have hbl := rnamesL_bl _ hib hr
              simp only [asN]
              exact yes trivial (rcut_ok hbt (by omega) ht (fun n hn => (hbl.1 n hn).1) (fun n hn => by have := (hbl.1 n hn).2; omega) (by omega) (by have := hbl.2; omega))
          · rw [if_pos (.inr (.inr c4))]
            have e0 : (rd list ((list.length - 1 : Nat) : Int) != 41) = true := by rw [bne_iff_ne]; exact c4
            rw [e0]; exact bad
        · rw [if_pos (.inr (.inl c3))]
          exact no c3 bad
    · rw [if_neg c1]
      exact no c1 noNames
theorem rparse_ok {t : List Int} (hb : byte t) (hl : t.length ≤ 900) : Ev (fun k => letterboxref15_Parse.f k (strOfNums t)) (outL (rparseL t)) := by
  have bad : Ev (fun k => letterboxref15_Parse.j0 k (strOfNums t) true) sec_none := by
    refine st (fun k => by rw [letterboxref15_Parse.j0]) ?_
    exact yes rfl (fin rfl)
  unfold letterboxref15_Parse.f rparseL
  by_cases h0 : t = []
  · rw [if_pos (.inl h0)]
    exact yes ((str_toList_nil _).2 h0) bad
  · refine no (fun e => h0 ((str_toList_nil _).1 e)) ?_
    have hpos : 0 < t.length := List.length_pos_iff.2 h0
    simp only [strOfNums_size, str_bt _ hb]
    refine yes (by omega) ?_
    by_cases h1 : rd t 0 = 91
    · rw [if_neg (fun e => e.elim h0 (fun e => e h1))]
      have e0 : (rd t 0 != 91) = false := by rw [h1]; rfl
      rw [e0]
      refine st (fun k => by rw [letterboxref15_Parse.j0]) ?_
      refine no (by decide) (bnd (last_ok2 hb (by omega) 93) ?_)
      unfold lastI
      cases hL : lastL 93 t with
      | none => exact yes (by decide) (fin rfl)
      | some o =>
        have et := lastL_to (show lastL 93 t = some (o.1, o.2) from hL)
        have el := congrArg List.length et
        rw [List.length_append, List.length_cons] at el
        have ha : 1 ≤ o.1.length := by
          rcases Nat.lt_or_ge 0 o.1.length with h | h
          · exact h
          · have : o.1 = [] := List.length_eq_zero_iff.1 (by omega)
            rw [this, List.nil_append] at et
            rw [et] at h1
            exact absurd (show (93 : Int) = 91 from h1) (by decide)
        have e1 := wr1 (i := o.1.length) (by omega)
        have e2 : t.take o.1.length = o.1 := by conv => lhs; rw [et]
                                                exact List.take_left' rfl
        have e3 : t.drop (o.1.length + 1) = o.2 := by
          conv => lhs; rw [et]
          rw [List.drop_append, Nat.add_sub_cancel_left, List.drop_eq_nil_of_le (by omega)]; rfl
        have hb1 : byte o.1 := fun c hc => hb c (by rw [et]; exact List.mem_append_left _ hc)
        have hb2 : byte o.2 := fun c hc => hb c (by rw [et]; exact List.mem_append_right _ (List.mem_cons_of_mem _ hc))
        simp only [e1, Int.toNat_natCast, strOfNums_size]
        refine no (by omega) (yes (by omega) (yes (by omega) (yes (by omega) (yes (by omega) ?_))))
        rw [show (strOfNums t).extract (o.1.length + 1) t.length = strOfNums o.2 by rw [← strOfNums_size t, str_ex, e3], show (strOfNums t).extract 1 o.1.length = strOfNums (o.1.drop 1) by rw [str_extract, e2]]
        have go : tailOk o.2 → Ev (fun k => letterboxref15_Parse.j1 k (strOfNums (o.1.drop 1)) (strOfNums o.2)) (outL (if tailOk o.2 then rinL (o.1.drop 1) o.2 else none)) := by
          intro h
          rw [if_pos h]
          exact rin_ok (byte_drop hb1 _) (by rw [List.length_drop]; omega) hb2 (by omega) h
        have ko : ¬ tailOk o.2 → sec_none = outL (if tailOk o.2 then rinL (o.1.drop 1) o.2 else none) := fun h => by rw [if_neg h]; rfl
        by_cases c0 : o.2 = []
        · exact yes ((str_toList_nil _).2 c0) (go (.inl c0))
        · refine no (fun e => c0 ((str_toList_nil _).1 e)) ?_
          simp only [strOfNums_size, str_bt _ hb2]
          by_cases c1 : o.2.length < 5
          · exact yes (by omega) (fin (ko (fun e => e.elim c0 (fun e => by omega))))
          · refine no (by omega) (yes (by omega) ?_)
            by_cases c2 : rd o.2 0 = 60
            · refine yes c2 ?_
              simp only [wl1 (show 1 ≤ o.2.length by omega) (show o.2.length ≤ 1000000 by omega)]
              refine yes (by omega) (yes (by omega) ?_)
              by_cases c3 : rd o.2 ((o.2.length - 1 : Nat) : Int) = 62
              · exact yes c3 (go (.inr ⟨by omega, c2, c3⟩))
              · exact no c3 (fin (ko (fun e => e.elim c0 (fun e => c3 e.2.2))))
            · exact no c2 (fin (ko (fun e => e.elim c0 (fun e => c2 e.2.1))))
    · rw [if_pos (.inr h1)]
      have e0 : (rd t 0 != 91) = true := by rw [bne_iff_ne]; exact h1
      rw [e0]; exact bad
end Go.Proofs.YtbjbagocnnffaaaDoor.Sec
