/- The law SectionCase holds: the words may stand in small letters, a letter more or less is none. -/
import Derived.Test.YtbjbagocnnffaaaDoorSecC
import Derived.Test.YtbjbagocnnffaaaDoorPx12
set_option linter.unusedVariables false
set_option linter.unusedSimpArgs false
namespace Go.Proofs.YtbjbagocnnffaaaDoor.Pure
open Go.RowKit Go.Proofs.YtbjbagocnnffaaaDoor.P Go.Proofs.YtbjbagocnnffaaaDoorW.PrintWords Go.Proofs.YtbjbagocnnffaaaDoorW.PrintLast Go.Proofs.YtbjbagocnnffaaaDoor.Aids Go.Proofs.YtbjbagocnnffaaaDoor.Chars Go.Proofs.YtbjbagocnnffaaaDoor.Sec
/-! the path's digits -/
def dps : List Int → List Int
  | [] => []
  | n :: ns => (48 + n) :: 46 :: dps ns
theorem dps_app : ∀ (a b : List Int), dps (a ++ b) = dps a ++ dps b
  | [], b => rfl
  | n :: a, b => by rw [List.cons_append, dps, dps_app a b, dps]; rfl
theorem dps_len : ∀ (a : List Int), (dps a).length = 2 * a.length
  | [] => rfl
  | n :: a => by rw [dps]; simp only [List.length_cons]; rw [dps_len a]; omega
theorem dps_byte : ∀ (a : List Int), (∀ n ∈ a, 1 ≤ n ∧ n ≤ 9) → byte (dps a)
  | [], _ => byte_nil
  | n :: a, h => by
    have h1 := h n List.mem_cons_self
    exact byte_cons (by omega) (byte_cons (by omega) (dps_byte a fun m hm => h m (List.mem_cons_of_mem _ hm)))
theorem num_one (n : Int) (h : 1 ≤ n ∧ n ≤ 9) : number [48 + n] = (n, true) := by
  have : n = 1 ∨ n = 2 ∨ n = 3 ∨ n = 4 ∨ n = 5 ∨ n = 6 ∨ n = 7 ∨ n = 8 ∨ n = 9 := by omega
  rcases this with rfl | rfl | rfl | rfl | rfl | rfl | rfl | rfl | rfl <;> decide +kernel
/-- what is read behind the path -/
def after (p T : List Int) : Option Sp :=
  let u := tailL T false p
  if listed u.2.1 = true ∧ u.2.2.2 = false then
    let n := namesL u.2.2.1 u.2.2.2
    cutL u.1 u.2.1 n.1 n.2.1 n.2.2
  else cutL u.1 u.2.1 [] u.2.2.1 u.2.2.2
theorem what_dps : ∀ (ns p T : List Int) (d : Nat), (∀ n ∈ ns, 1 ≤ n ∧ n ≤ 9) → headD T = false → ns.length < d → whatL d (dps ns ++ T) false p = tailL T false (p ++ ns)
  | [], p, T, 0, _, _, h => by simp at h
  | [], p, T, d + 1, _, hT, _ => by
    show whatL (d + 1) T false p = _
    rw [whatL, if_neg (by rw [hT]; simp), List.append_nil]
  | n :: ns, p, T, 0, _, _, h => by simp at h
  | n :: ns, p, T, d + 1, hn, hT, h => by
    have h1 := hn n List.mem_cons_self
    have hd : headD ((48 + n) :: 46 :: (dps ns ++ T)) = true := by
      show dig (48 + n) = true
      unfold dig
      rw [decide_eq_true (show 48 ≤ 48 + n by omega), decide_eq_true (show 48 + n ≤ 57 by omega)]; rfl
    have hs : stops dig (46 :: (dps ns ++ T)) := fun c t e => by injection e with e1 _; rw [← e1]; decide
    have hnb : numbL ((48 + n) :: 46 :: (dps ns ++ T)) false = (n, 46 :: (dps ns ++ T), false) := numb_of (a := [48 + n]) (num_one n h1) hs
    have hc : cutp [46] (46 :: (dps ns ++ T)) = some (dps ns ++ T) := cutp_app [46] _
    show whatL (d + 1) ((48 + n) :: 46 :: (dps ns ++ T)) false p = _
    rw [whatL, if_pos ⟨hd, rfl⟩, hnb]
    dsimp only
    rw [hc]
    dsimp only
    rw [what_dps ns (p ++ [n]) T d (fun m hm => hn m (List.mem_cons_of_mem _ hm)) hT (by simp at h; omega)]
    simp
theorem parse_dps (ns T : List Int) (hn : ∀ n ∈ ns, 1 ≤ n ∧ n ≤ 9) (hT : headD T = false) : parseL (91 :: (dps ns ++ T)) = after ns T := by
  have h1 : needL [91] (91 :: (dps ns ++ T)) false = (dps ns ++ T, false) := by
    unfold needL
    rw [show cutp [91] (91 :: (dps ns ++ T)) = some (dps ns ++ T) from cutp_app [91] _]
  unfold parseL after
  rw [h1]
  dsimp only
  rw [what_dps ns [] T _ hn hT (by rw [List.length_append, dps_len]; omega), List.nil_append]
/-! the five words -/
def sq (i : Nat) : Nat := [1, 4, 5, 2, 3].getD i 0
def sr (i : Nat) : List Int := ([[], [], [], [32, 40, 97, 41], [32, 40, 98, 32, 99, 41]] : List (List Int)).getD i []
def sn (i : Nat) : List (List Int) := ([[], [], [], [[97]], [[98], [99]]] : List (List (List Int))).getD i []
theorem word_of (a0 : Int) : ∃ i, i < 5 ∧ bytesOf (sc_word a0) = wordL (sq i) ++ sr i := by
  refine ⟨(a0 % 5).toNat, by omega, ?_⟩
  unfold sc_word
  obtain ⟨q, hq⟩ : ∃ q, (a0 % 5).toNat = q := ⟨_, rfl⟩
  have h5 : q < 5 := by omega
  rw [hq]
  match q, h5 with
  | 0, _ => decide +kernel
  | 1, _ => decide +kernel
  | 2, _ => decide +kernel
  | 3, _ => decide +kernel
  | 4, _ => decide +kernel
theorem w_facts : ∀ i : Fin 5, wordL (sq i.val) ≠ [] ∧ (∀ c ∈ wordL (sq i.val), let_ c = true) ∧ (∀ c ∈ wordL (sq i.val), 0 ≤ c ∧ c ≤ 255) ∧ (∀ c ∈ sr i.val, 0 ≤ c ∧ c ≤ 255) ∧ findL (wordL (sq i.val)) = some (sq i.val) ∧ (sr i.val = [] ∨ sr i.val = 32 :: (sr i.val).drop 1) ∧ (wordL (sq i.val) ++ sr i.val).length ≤ 23 := by decide +kernel
theorem tail_at {m r : List Int} {q : Nat} (p : List Int) (hm : m ≠ []) (hl : ∀ c ∈ m, let_ c = true) (hr : stops let_ r) (hf : findL m = some q) : tailL (m ++ r) false p = (p, (q : Int), r, false) := by
  unfold tailL
  rw [(tw_app hl hr).1, (tw_app hl hr).2, if_neg hm, hf]
theorem tail_bad {m r : List Int} (p : List Int) (hm : m ≠ []) (hl : ∀ c ∈ m, let_ c = true) (hr : stops let_ r) (hf : findL m = none) : tailL (m ++ r) false p = (p, 0, r, true) := by
  unfold tailL
  rw [(tw_app hl hr).1, (tw_app hl hr).2, if_neg hm, hf]
theorem stops_of (i : Nat) (hi : i < 5) (z : List Int) (hz : stops let_ z) : stops let_ (sr i ++ z) := by
  rcases (w_facts ⟨i, hi⟩).2.2.2.2.2.1 with h | h
  · simp only at h; rw [h]; exact hz
  · simp only at h; rw [h]; intro c t e; injection e with e1 _; rw [← e1]; decide
theorem cut_true (p : List Int) (q : Int) (nm : List (List Int)) (r : List Int) (hr : r = [] ∨ r.getLastD 0 ≠ 60) (h : ∀ x, cutp [60] (needL [93] r true).1 ≠ some x) : cutL p q nm r true = none := by
  unfold cutL
  cases hc : cutp [60] (needL [93] r true).1 with
  | some x => exact absurd hc (h x)
  | none =>
    have : (needL [93] r true).2 = true := by unfold needL; split <;> rfl
    dsimp only
    rw [this]
    rfl
theorem after_good (i : Nat) (hi : i < 5) (p m : List Int) (h : lows m = lows (wordL (sq i))) (hl : ∀ c ∈ m, let_ c = true) : after p (m ++ (sr i ++ [93])) = some ⟨p, (sq i : Int), sn i, false, 0, 0⟩ := by
  have hw := w_facts ⟨i, hi⟩
  simp only at hw
  have hm : m ≠ [] := by
    intro e; subst e
    have h1 := congrArg List.length h
    rw [lows_length, lows_length] at h1
    exact hw.1 (List.eq_nil_of_length_eq_zero h1.symm)
  have hf : findL m = some (sq i) := by rw [← hw.2.2.2.2.1]; unfold findL; rw [h]
  unfold after
  rw [tail_at p hm hl (stops_of i hi [93] (fun c t e => by injection e with e1 _; rw [← e1]; decide)) hf]
  match i, hi with
  | 0, _ => rfl
  | 1, _ => rfl
  | 2, _ => rfl
  | 3, _ => rfl
  | 4, _ => rfl
theorem after_X (i : Nat) (hi : i < 5) (p : List Int) : after p (88 :: (wordL (sq i) ++ (sr i ++ [93]))) = none := by
  have hw := w_facts ⟨i, hi⟩
  simp only at hw
  have hs := stops_of i hi [93] (fun c t e => by injection e with e1 _; rw [← e1]; decide)
  have hf : findL (88 :: wordL (sq i)) = none := by
    have : ∀ i : Fin 5, findL (88 :: wordL (sq i.val)) = none := by decide +kernel
    exact this ⟨i, hi⟩
  unfold after
  rw [show (88 :: (wordL (sq i) ++ (sr i ++ [93]))) = (88 :: wordL (sq i)) ++ (sr i ++ [93]) from rfl, tail_bad p (List.cons_ne_nil _ _) (fun c hc => by
    rcases List.mem_cons.1 hc with rfl | hc
    · decide
    · exact hw.2.1 c hc) hs hf]
  match i, hi with
  | 0, _ => rfl
  | 1, _ => rfl
  | 2, _ => rfl
  | 3, _ => rfl
  | 4, _ => rfl
theorem after_no (i : Nat) (hi : i < 5) (p : List Int) : after p (wordL (sq i) ++ sr i) = none := by
  have hw := w_facts ⟨i, hi⟩
  simp only at hw
  have hs := stops_of i hi [] (fun c t e => by cases e)
  rw [List.append_nil] at hs
  unfold after
  rw [tail_at p hw.1 hw.2.1 hs hw.2.2.2.2.1]
  match i, hi with
  | 0, _ => rfl
  | 1, _ => rfl
  | 2, _ => rfl
  | 3, _ => rfl
  | 4, _ => rfl
theorem after_x (i : Nat) (hi : i < 5) (p : List Int) : after p (wordL (sq i) ++ (sr i ++ [93, 120])) = none := by
  have hw := w_facts ⟨i, hi⟩
  simp only at hw
  have hs := stops_of i hi [93, 120] (fun c t e => by injection e with e1 _; rw [← e1]; decide)
  unfold after
  rw [tail_at p hw.1 hw.2.1 hs hw.2.2.2.2.1]
  match i, hi with
  | 0, _ => rfl
  | 1, _ => rfl
  | 2, _ => rfl
  | 3, _ => rfl
  | 4, _ => rfl
/-! what the loop may leave -/
theorem low_add {c : Int} (h1 : 65 ≤ c) (h2 : c ≤ 90) : low (c + 32) = low c ∧ let_ (c + 32) = true := by
  have e : low (c + 32) = c + 32 := by unfold low; rw [if_neg (by omega)]
  have e2 : low c = c + 32 := by unfold low; rw [if_pos ⟨h1, h2⟩]
  refine ⟨by rw [e, e2], ?_⟩
  unfold let_
  rw [e, decide_eq_true (show 97 ≤ c + 32 by omega), decide_eq_true (show c + 32 ≤ 122 by omega)]
  rfl
theorem rd_app_l (a b : List Int) (j : Nat) (h : j < a.length) : rd (a ++ b) (j : Int) = rd a (j : Int) := by
  rw [rd_at _ _ (by rw [List.length_append]; omega), rd_at _ _ h, List.getElem_append_left h]
theorem low_split {nm R M : List Int} {L : Nat} (hR : R = [] ∨ R = 32 :: R.drop 1) (hn : ∀ c ∈ nm, let_ c = true) (h : sc_low (nm ++ R) L M) : ∃ m, M = m ++ R ∧ lows m = lows nm ∧ ∀ c ∈ m, let_ c = true := by
  obtain ⟨hl, hj⟩ := h
  rw [List.length_append] at hl hj
  have hat : ∀ j, j < nm.length → rd M (j : Int) = rd nm (j : Int) ∨ (65 ≤ rd nm (j : Int) ∧ rd nm (j : Int) ≤ 90 ∧ rd M (j : Int) = rd nm (j : Int) + 32) := by
    intro j h
    have h1 := hj j (by omega)
    rw [rd_app_l nm R j h] at h1
    exact h1.imp_right fun ⟨_, _, a, b, c⟩ => ⟨a, b, c⟩
  have hback : ∀ j, nm.length ≤ j → j < nm.length + R.length → rd M (j : Int) = rd (nm ++ R) (j : Int) := by
    intro j h1 h2
    rcases hj j h2 with h | ⟨_, h, _⟩
    · exact h
    · exfalso
      refine h nm.length h1 ?_
      rcases hR with e | e
      · rw [e] at h2; simp at h2; omega
      · rw [rd_at _ _ (by rw [List.length_append]; omega)]
        have h0 : R ≠ [] := by rw [e]; exact List.cons_ne_nil _ _
        rw [List.getElem_append_right (Nat.le_refl _)]
        simp only [Nat.sub_self]
        have : R[0]? = some 32 := by rw [e]; rfl
        rw [List.getElem?_eq_getElem (by omega)] at this
        exact Option.some.inj this
  have ml : (M.take nm.length).length = nm.length := by rw [List.length_take]; omega
  have hmat : ∀ j (h : j < nm.length), (M.take nm.length)[j]'(by omega) = rd M (j : Int) := by
    intro j h
    rw [rd_at M j (by omega), List.getElem_take]
  refine ⟨M.take nm.length, ?_, ?_, ?_⟩
  · refine List.ext_getElem (by rw [List.length_append, ml, hl]) (fun j h1 h2 => ?_)
    by_cases h : j < nm.length
    · rw [List.getElem_append_left (by omega), List.getElem_take]
    · have := hback j (by omega) (by omega)
      rw [rd_at M j h1, rd_at (nm ++ R) j (by rw [List.length_append]; omega), List.getElem_append_right (by omega)] at this
      rw [this, List.getElem_append_right (by omega)]
      simp only [ml]
  · unfold lows
    refine List.ext_getElem (by rw [List.length_map, List.length_map, ml]) (fun j h1 h2 => ?_)
    have h3 : j < nm.length := by rw [List.length_map] at h2; exact h2
    rw [List.getElem_map, List.getElem_map, hmat j h3]
    have hnm := rd_at nm j h3
    rcases hat j h3 with e | ⟨a, b, e⟩
    · rw [e, hnm]
    · rw [e, (low_add a b).1, hnm]
  · intro c hc
    obtain ⟨j, h1, rfl⟩ := List.getElem_of_mem hc
    have h3 : j < nm.length := by omega
    rw [hmat j h3]
    rcases hat j h3 with e | ⟨a, b, e⟩
    · rw [e, rd_at nm j h3]; exact hn _ (List.getElem_mem h3)
    · rw [e]; exact (low_add a b).2
def lowsAll : List Int → List (List Int)
  | [] => [[]]
  | c :: l => (lowsAll l).flatMap fun t => [c :: t, (c + 32) :: t]
theorem rd_cons (c : Int) (l : List Int) (j : Nat) : rd (c :: l) ((j + 1 : Nat) : Int) = rd l (j : Int) := by
  unfold rd
  rw [Int.toNat_natCast, Int.toNat_natCast]
  rfl
theorem mem_lowsAll : ∀ (l M : List Int), M.length = l.length → (∀ j : Nat, j < l.length → rd M (j : Int) = rd l (j : Int) ∨ rd M (j : Int) = rd l (j : Int) + 32) → M ∈ lowsAll l
  | [], [], _, _ => by simp [lowsAll]
  | [], _ :: _, h, _ => by simp at h
  | _ :: _, [], h, _ => by simp at h
  | c :: l, x :: M, h, hj => by
    have ih := mem_lowsAll l M (by simpa using h) (fun j hl => by
      have := hj (j + 1) (by simp; omega)
      rw [rd_cons, rd_cons] at this
      exact this)
    have h0 : x = c ∨ x = c + 32 := hj 0 (by simp)
    rw [lowsAll, List.mem_flatMap]
    refine ⟨M, ih, ?_⟩
    rcases h0 with rfl | rfl
    · exact List.mem_cons_self
    · exact List.mem_cons_of_mem _ List.mem_cons_self
theorem ev_list {α β : Type} (P : β → Prop) (g : β → Nat → Option α) (v : β → α) : ∀ L : List β, (∀ x, P x → Ev (g x) (v x)) → ∃ K, ∀ x ∈ L, P x → ∀ k, K ≤ k → g x k = some (v x)
  | [], _ => ⟨0, fun x hx => by cases hx⟩
  | a :: L, h => by
    obtain ⟨K, hK⟩ := ev_list P g v L h
    by_cases ha : P a
    · obtain ⟨K', hK'⟩ := h a ha
      refine ⟨max K K', fun x hx hp k hk => ?_⟩
      rcases List.mem_cons.1 hx with rfl | hx
      · exact hK' k (by omega)
      · exact hK x hx hp k (by omega)
    · refine ⟨K, fun x hx hp k hk => ?_⟩
      rcases List.mem_cons.1 hx with rfl | hx
      · exact absurd hp ha
      · exact hK x hx hp k hk
/-! the path of the law -/
def scP (l : List Int) (i : Nat) : List Int := (l.take i).map fun x => Int.tmod x 9 + 1
theorem scP_ok (l : List Int) (hb : ∀ x ∈ l, 0 ≤ x ∧ x < 256) (i : Nat) : ∀ n ∈ scP l i, 1 ≤ n ∧ n ≤ 9 := by
  intro n hn
  obtain ⟨x, hx, rfl⟩ := List.mem_map.1 hn
  have h0 := (hb x (List.mem_of_mem_take hx)).1
  have h1 : 0 ≤ Int.tmod x 9 := Int.tmod_nonneg _ h0
  have h2 : Int.tmod x 9 < 9 := Int.tmod_lt_of_pos _ (by decide)
  omega
theorem dig_ext (d : Int) (h0 : 0 ≤ d) (h9 : d < 9) : (⟨#[49, 50, 51, 52, 53, 54, 55, 56, 57]⟩ : ByteArray).extract d.toNat (d + 1).toNat ++ ⟨#[46]⟩ = strOfNums [48 + (d + 1), 46] := by
  have : d = 0 ∨ d = 1 ∨ d = 2 ∨ d = 3 ∨ d = 4 ∨ d = 5 ∨ d = 6 ∨ d = 7 ∨ d = 8 := by omega
  rcases this with rfl | rfl | rfl | rfl | rfl | rfl | rfl | rfl | rfl <;> rfl
theorem pre_is (l : List Int) (hb : ∀ x ∈ l, 0 ≤ x ∧ x < 256) : ∀ i, i ≤ l.length → sc_pre l i = strOfNums (91 :: dps (scP l i))
  | 0, _ => rfl
  | i + 1, hi => by
    have hx := rd_mem l i (by omega)
    have h0 := (hb _ hx).1
    have h1 : 0 ≤ Int.tmod (rd l (i : Int)) 9 := Int.tmod_nonneg _ h0
    have h2 : Int.tmod (rd l (i : Int)) 9 < 9 := Int.tmod_lt_of_pos _ (by decide)
    have e : scP l (i + 1) = scP l i ++ [Int.tmod (rd l (i : Int)) 9 + 1] := by
      unfold scP
      rw [List.take_succ_eq_append_getElem (by omega), List.map_append, rd_at l i (by omega)]
      rfl
    rw [sc_pre, pre_is l hb i (by omega), dig_ext _ h1 h2, str_append, e, dps_app]
    rfl
theorem out_good {p : List Int} {q : Int} {nm : List (List Int)} (h : may ⟨p, q, nm, false, 0, 0⟩ = true) : outL (some ⟨p, q, nm, false, 0, 0⟩) = (p, q, strs nm, false, 0, 0, 0) := if_pos h
theorem may_good (i : Nat) (hi : i < 5) (p : List Int) (hp : ∀ n ∈ p, 1 ≤ n ∧ n ≤ 9) (h0 : 0 < p.length) (h1 : p.length ≤ 10) : may ⟨p, (sq i : Int), sn i, false, 0, 0⟩ = true := by
  have e : p.all (within · 1) = true := List.all_eq_true.2 fun n hn => by
    have := hp n hn
    unfold within
    rw [decide_eq_true (show 1 ≤ n by omega), decide_eq_true (show n ≤ 4294967295 by omega)]; rfl
  unfold may
  simp only
  rw [e, decide_eq_true (show p.length ≤ 64 by omega), decide_eq_true h0]
  match i, hi with
  | 0, _ => rfl
  | 1, _ => rfl
  | 2, _ => rfl
  | 3, _ => rfl
  | 4, _ => rfl
def gP (s : ByteArray) (M : List Int) (k : Nat) : Option SecT := section_Parse.f k ((s ++ strOfNums M) ++ (⟨#[93]⟩ : ByteArray))
theorem gP_eq (s : ByteArray) (M : List Int) (k : Nat) : gP s M k = section_Parse.f k ((s ++ strOfNums M) ++ (⟨#[93]⟩ : ByteArray)) := by unfold gP; rfl
theorem SectionCase : letterboxlaw15_SectionCase.Pure := by
  intro a0 a1 l2 w0 w1 hm hy hb0
  have hb : ∀ x ∈ l2, 0 ≤ x ∧ x < 256 := fun x hx => by have := wf_u8 (hb0 x hx); omega
  have g0 := wf_u8 w0
  have g1 : 0 ≤ a1 ∧ a1 < 4294967296 := by
    have : (decide (0 ≤ a1) && decide (a1 ≤ 4294967295)) = true := w1
    simp only [Bool.and_eq_true, decide_eq_true_eq] at this
    omega
  have key : 0 < l2.length → l2.length ≤ 10 → ∃ K, ∀ k, K ≤ k → sc_all k (sc_pre l2 l2.length) (sc_word a0) l2.length := by
    intro hn1 hn2
    obtain ⟨i, hi, hw⟩ := word_of a0
    obtain ⟨p, hp⟩ : ∃ p, scP l2 l2.length = p := ⟨_, rfl⟩
    have hpl : p.length = l2.length := by rw [← hp]; unfold scP; rw [List.length_map, List.length_take]; omega
    have hp9 : ∀ n ∈ p, 1 ≤ n ∧ n ≤ 9 := by rw [← hp]; exact scP_ok l2 hb _
    have hpre : sc_pre l2 l2.length = strOfNums (91 :: dps p) := by rw [← hp]; exact pre_is l2 hb _ (Nat.le_refl _)
    have hwd : sc_word a0 = strOfNums (wordL (sq i) ++ sr i) := by rw [← hw, str_bytes]
    have hf := w_facts ⟨i, hi⟩
    simp only at hf
    have hdl := dps_len p
    have hdb := dps_byte p hp9
    have hmay := may_good i hi p hp9 (by omega) (by omega)
    have nohead : ∀ T : List Int, (∃ c t, T = c :: t ∧ let_ c = true ∧ c ≠ 46) → headD T = false := by
      rintro T ⟨c, t, rfl, h1, h2⟩
      show dig c = false
      unfold let_ low at h1
      unfold dig
      simp only [Bool.or_eq_true, Bool.and_eq_true, decide_eq_true_eq, Bool.and_eq_false_iff, decide_eq_false_iff_not] at h1 ⊢
      split at h1 <;> omega
    have hg : ∀ M k, gP (strOfNums (91 :: dps p)) M k = section_Parse.f k ((strOfNums (91 :: dps p) ++ strOfNums M) ++ (⟨#[93]⟩ : ByteArray)) := fun M k => gP_eq _ M k
    obtain ⟨g, hgg⟩ : ∃ g, g = gP (strOfNums (91 :: dps p)) := ⟨_, rfl⟩
    rw [← hgg] at hg
    obtain ⟨v, hv⟩ : ∃ v : SecT, v = (p, (sq i : Int), strs (sn i), false, 0, 0, 0) := ⟨_, rfl⟩
    obtain ⟨B, hB⟩ : ∃ B, bytesOf (sc_word a0) = B := ⟨_, rfl⟩
    rw [hB] at hw
    have hgood : ∀ M, sc_low B B.length M → Ev (g M) v := by
      intro M hM
      rw [hw] at hM
      rw [show g M = fun k => section_Parse.f k ((strOfNums (91 :: dps p) ++ strOfNums M) ++ (⟨#[93]⟩ : ByteArray)) from funext (hg M), hv]
      have hMl := hM.1
      obtain ⟨m, rfl, hlw, hml⟩ := low_split hf.2.2.2.2.2.1 hf.2.1 hM
      have hne : m ≠ [] := by
        intro e; subst e
        have h1 := congrArg List.length hlw
        rw [lows_length, lows_length] at h1
        exact hf.1 (List.eq_nil_of_length_eq_zero h1.symm)
      have hmb : byte m := by
        intro c hc
        have h1 : low c ∈ lows m := List.mem_map_of_mem hc
        rw [hlw] at h1
        obtain ⟨d, hd, e⟩ := List.mem_map.1 h1
        have := low_byte (hf.2.2.1 d hd)
        rw [e] at this
        unfold low at this
        split at this <;> omega
      have hT : headD (m ++ (sr i ++ [93])) = false := by
        cases m with
        | nil => exact absurd rfl hne
        | cons c t =>
          refine nohead _ ⟨c, _, rfl, hml c List.mem_cons_self, ?_⟩
          intro e
          have h1 : low c = (lows (wordL (sq i))).headD 0 := by rw [← hlw]; rfl
          have h2 : ∀ i : Fin 5, (lows (wordL (sq i.val))).headD 0 ≠ 46 := by decide +kernel
          refine h2 ⟨i, hi⟩ ?_
          rw [← h1, e]; rfl
      rw [show (⟨#[93]⟩ : ByteArray) = strOfNums [93] from rfl, str_append, str_append]
      have e : (91 :: dps p ++ (m ++ sr i) ++ [93]) = 91 :: (dps p ++ (m ++ (sr i ++ [93]))) := by simp
      rw [e]
      have hpo := parse_ok (t := 91 :: (dps p ++ (m ++ (sr i ++ [93])))) (byte_cons (by omega) (byte_append hdb (byte_append hmb (byte_append hf.2.2.2.1 (byte_one (by omega) (by omega)))))) (by
        have := hf.2.2.2.2.2.2
        simp only [List.length_append, List.length_cons, List.length_nil] at hMl this ⊢
        omega)
      rw [parse_dps p _ hp9 hT, after_good i hi p m hlw hml, out_good hmay] at hpo
      exact hpo
    have hbad : ∀ T : List Int, (∃ c t, T = c :: t ∧ let_ c = true ∧ c ≠ 46) → byte T → T.length ≤ 100 → after p T = none → Ev (fun k => section_Parse.f k (strOfNums (91 :: dps p ++ T))) sec_none := by
      intro T h1 h2 h3 h4
      have hpo := parse_ok (t := 91 :: (dps p ++ T)) (byte_cons (by omega) (byte_append hdb h2)) (by
        simp only [List.length_append, List.length_cons]
        omega)
      rw [parse_dps p _ hp9 (nohead T h1), h4] at hpo
      exact hpo
    have hwb : byte (wordL (sq i)) := hf.2.2.1
    have hrb : byte (sr i) := hf.2.2.2.1
    have hlen := hf.2.2.2.2.2.2
    rw [List.length_append] at hlen
    have hd46 : ∃ c t, wordL (sq i) = c :: t ∧ let_ c = true ∧ c ≠ 46 := by
      have h2 : ∀ i : Fin 5, ∃ c t, wordL (sq i.val) = c :: t ∧ let_ c = true ∧ c ≠ 46 := by
        intro i
        match i with
        | 0 => exact ⟨_, _, rfl, by decide, by decide⟩
        | 1 => exact ⟨_, _, rfl, by decide, by decide⟩
        | 2 => exact ⟨_, _, rfl, by decide, by decide⟩
        | 3 => exact ⟨_, _, rfl, by decide, by decide⟩
        | 4 => exact ⟨_, _, rfl, by decide, by decide⟩
      exact h2 ⟨i, hi⟩
    have hdr : ∀ z : List Int, ∃ c t, wordL (sq i) ++ z = c :: t ∧ let_ c = true ∧ c ≠ 46 := by
      intro z
      obtain ⟨c, t, h1, h2, h3⟩ := hd46
      exact ⟨c, t ++ z, by rw [h1]; rfl, h2, h3⟩
    obtain ⟨K1, h1⟩ := hbad (88 :: (wordL (sq i) ++ (sr i ++ [93]))) ⟨88, _, rfl, by decide, by decide⟩ (byte_cons (by omega) (byte_append hwb (byte_append hrb (byte_one (by omega) (by omega))))) (by simp only [List.length_append, List.length_cons, List.length_nil]; omega) (after_X i hi p)
    obtain ⟨K2, h2⟩ := hbad (wordL (sq i) ++ sr i) (hdr _) (byte_append hwb hrb) (by rw [List.length_append]; omega) (after_no i hi p)
    obtain ⟨K3, h3⟩ := hbad (wordL (sq i) ++ (sr i ++ [93, 120])) (hdr _) (byte_append hwb (byte_append hrb (byte_cons (by omega) (byte_one (by omega) (by omega))))) (by simp only [List.length_append, List.length_cons, List.length_nil]; omega) (after_x i hi p)
    have hsl : (strs (sn i)).length ≤ 1000000 := by
      have : ∀ i : Fin 5, (strs (sn i.val)).length ≤ 2 := by
        intro i
        unfold strs
        rw [List.length_map]
        revert i
        decide +kernel
      have := this ⟨i, hi⟩
      simp only at this
      omega
    obtain ⟨K4, h4⟩ := same_ok p (sq i : Int) (strs (sn i)) false 0 0 (by omega) hsl
    obtain ⟨K5, h5⟩ := ev_list (sc_low B B.length) g (fun _ => v) (lowsAll B) hgood
    have hself : sc_low B B.length B := ⟨rfl, fun j _ => .inl rfl⟩
    obtain ⟨K6, h6⟩ := hgood _ hself
    have h6' := fun k hk => (hg B k).symm.trans (h6 k hk)
    have hBs : strOfNums B = sc_word a0 := by rw [← hB, str_bytes]
    rw [hBs] at h6'
    have h5' := fun M hM hM' k hk => (hg M k).symm.trans (h5 M hM hM' k hk)
    rw [hv] at h5' h6'
    clear h5 h6 hgood hbad
    refine ⟨max K1 (max K2 (max K3 (max K4 (max K5 K6)))), fun k hk => ?_⟩
    rw [hpre]
    refine ⟨fun M hM => ?_, ?_, ?_, ?_⟩
    · rw [hB] at hM
      have hin : M ∈ lowsAll B := mem_lowsAll _ _ hM.1 (fun j hj => (hM.2 j hj).imp_right fun ⟨_, _, _, _, e⟩ => e)
      exact ⟨_, _, _, _, _, _, _, _, _, _, _, _, h5' M hin hM k (by omega), h6' k (by omega), hpl, h4 k (by omega)⟩
    · refine ⟨[], 0, [], false, 0, 0, ?_⟩
      rw [hwd, show (⟨#[93]⟩ : ByteArray) = strOfNums [93] from rfl, show (⟨#[88]⟩ : ByteArray) = strOfNums [88] from rfl, str_append, str_append, str_append]
      have := h1 k (by omega)
      simp only [List.cons_append, List.append_assoc, List.nil_append] at this ⊢
      exact this
    · refine ⟨[], 0, [], false, 0, 0, ?_⟩
      rw [hwd, str_append]
      exact h2 k (by omega)
    · refine ⟨[], 0, [], false, 0, 0, ?_⟩
      rw [hwd, show (⟨#[93, 120]⟩ : ByteArray) = strOfNums [93, 120] from rfl, str_append, str_append]
      have := h3 k (by omega)
      simp only [List.cons_append, List.append_assoc, List.nil_append] at this ⊢
      exact this
  by_cases h0 : l2.length = 0
  · exact ⟨60, by unfold letterboxlaw15_SectionCase.f; rw [if_pos ⟨by omega, g0.1, by omega, g1.1, g1.2, hb, .inl h0⟩]⟩
  · by_cases h10 : 10 < l2.length
    · exact ⟨60, by unfold letterboxlaw15_SectionCase.f; rw [if_pos ⟨by omega, g0.1, by omega, g1.1, g1.2, hb, .inr (.inl h10)⟩]⟩
    · obtain ⟨K, hK⟩ := key (by omega) (by omega)
      obtain ⟨q, hq⟩ : ∃ q, q = max K 60 := ⟨_, rfl⟩
      have hA := hK q (by omega)
      have hq6 : 60 ≤ q := by omega
      have hg : a0 < 256 := by omega
      clear hK hq
      refine ⟨q, ?_⟩
      unfold letterboxlaw15_SectionCase.f
      exact if_pos ⟨hq6, g0.1, hg, g1.1, g1.2, hb, .inr (.inr hA)⟩
end Go.Proofs.YtbjbagocnnffaaaDoor.Pure
