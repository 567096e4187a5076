/- The program's reader, over lists of bytes: what each of its steps tells. -/
import Derived.Test.YtbjbagocnnffaaaDoorChA
import Derived.Test.YtbjbagocnnffaaaDoorPx6
set_option linter.unusedVariables false
set_option linter.unusedSimpArgs false
set_option linter.unusedSectionVars false
namespace Go.Proofs.YtbjbagocnnffaaaDoor.Sec
open Go.RowKit Go.Proofs.YtbjbagocnnffaaaDoor.P Go.Proofs.YtbjbagocnnffaaaDoorW.PrintWords Go.Proofs.YtbjbagocnnffaaaDoorW.PrintLast Go.Proofs.YtbjbagocnnffaaaDoor.Aids Go.Proofs.YtbjbagocnnffaaaDoor.Chars
/-- a text without a front -/
def cutp : List Int → List Int → Option (List Int)
  | [], s => some s
  | _ :: _, [] => none
  | c :: t, x :: s => if c = x then cutp t s else none
theorem cutp_app (t r : List Int) : cutp t (t ++ r) = some r := by
  induction t with
  | nil => rfl
  | cons c t ih => rw [List.cons_append, cutp, if_pos rfl, ih]
theorem cutp_some : ∀ (t s r : List Int), cutp t s = some r → s = t ++ r
  | [], s, r, h => by simp only [cutp, Option.some.injEq] at h; rw [h]; rfl
  | c :: t, [], r, h => by simp [cutp] at h
  | c :: t, x :: s, r, h => by
    rw [cutp] at h
    by_cases e : c = x
    · rw [if_pos e] at h; rw [cutp_some t s r h, e]; rfl
    · rw [if_neg e] at h; cases h
theorem cutp_take (t s : List Int) : (s.take t.length = t) ↔ ∃ r, cutp t s = some r := by
  constructor
  · intro h
    refine ⟨s.drop t.length, ?_⟩
    have e : s = t ++ s.drop t.length := by
      conv => lhs; rw [← List.take_append_drop t.length s, h]
    conv => lhs; rw [e]
    exact cutp_app t _
  · rintro ⟨r, h⟩
    rw [cutp_some t s r h, List.take_left']
    rfl
theorem str_ex (l : List Int) (a : Nat) : (strOfNums l).extract a (strOfNums l).size = strOfNums (l.drop a) := by
  rw [str_extract, strOfNums_size, List.take_length]
theorem str_ex0 (l : List Int) (b : Nat) : (strOfNums l).extract 0 b = strOfNums (l.take b) := by rw [str_extract, List.drop_zero]
section
variable {s : List Int} (hb : byte s) (hl : s.length ≤ 1000000)
include hb hl
theorem cut_ok (t : List Int) (ht : byte t) (hlt : t.length ≤ 100) : strings_CutPrefix.f (strOfNums s) (strOfNums t) = some (match cutp t s with | some r => (strOfNums r, true) | none => (strOfNums s, false)) := by
  unfold strings_CutPrefix.f stringslite_CutPrefix.f stringslite_HasPrefix.f
  simp only [strOfNums_size, ge_iff_le]
  by_cases h : (t.length : Int) ≤ (s.length : Int)
  · rw [if_pos h, if_pos (by omega), if_pos h, Option.bind_some, Int.toNat_natCast, str_ex0, toList_beq, bytes_str _ (byte_take hb _), bytes_str _ ht]
    by_cases h2 : s.take t.length = t
    · obtain ⟨r, hr⟩ := (cutp_take t s).1 h2
      rw [hr]
      have e : (s.take t.length == t) = true := beq_iff_eq.mpr h2
      rw [e, if_pos rfl, if_pos (by omega), if_pos h, Option.bind_some]
      have := cutp_some t s r hr
      rw [← strOfNums_size s, str_ex, show s.drop t.length = r by rw [this, List.drop_left']; rfl]
    · have hn : cutp t s = none := by
        cases hc : cutp t s with
        | none => rfl
        | some r => exact absurd ((cutp_take t s).2 ⟨r, hc⟩) h2
      rw [hn]
      have e : (s.take t.length == t) = false := beq_eq_false_iff_ne.mpr h2
      rw [e, if_neg (by decide)]; rfl
  · rw [if_neg h, Option.bind_some, if_neg (by decide), Option.bind_some]
    have hn : cutp t s = none := by
      cases hc : cutp t s with
      | none => rfl
      | some r => have := congrArg List.length (cutp_some t s r hc); rw [List.length_append] at this; omega
    rw [hn]
theorem is_ok (t : List Int) (ht : byte t) (hlt : t.length ≤ 100) (b : Bool) : section_reader_is.f (strOfNums s) b (strOfNums t) = some (match cutp t s with | some r => (true, strOfNums r, b) | none => (false, strOfNums s, b)) := by
  unfold section_reader_is.f
  rw [cut_ok hb hl t ht hlt, Option.bind_some]
  cases cutp t s with
  | some r => rfl
  | none => rfl
end
/-- what stands when something must come next -/
def needL (t s : List Int) (b : Bool) : List Int × Bool := match cutp t s with | some r => (r, b) | none => (s, true)
theorem need_ok {s : List Int} (hb : byte s) (hl : s.length ≤ 1000000) (t : List Int) (ht : byte t) (hlt : t.length ≤ 100) (b : Bool) : section_reader_need.f (strOfNums s) b (strOfNums t) = some (strOfNums (needL t s b).1, (needL t s b).2) := by
  unfold section_reader_need.f
  rw [is_ok hb hl t ht hlt, Option.bind_some]
  unfold needL
  cases cutp t s with
  | some r => rfl
  | none => rfl
theorem cutp_byte {t s r : List Int} (hb : byte s) (h : cutp t s = some r) : byte r := fun c hc => hb c (by rw [cutp_some t s r h]; exact List.mem_append_right _ hc)
theorem cutp_len {t s r : List Int} (h : cutp t s = some r) : r.length ≤ s.length := by rw [cutp_some t s r h, List.length_append]; omega
theorem need_byte {t s : List Int} (hb : byte s) (b : Bool) : byte (needL t s b).1 := by
  unfold needL
  cases h : cutp t s with
  | some r => exact cutp_byte hb h
  | none => exact hb
theorem need_len (t s : List Int) (b : Bool) : (needL t s b).1.length ≤ s.length := by
  unfold needL
  cases h : cutp t s with
  | some r => exact cutp_len h
  | none => exact Nat.le_refl _
theorem need_bad (t s : List Int) : (needL t s true).2 = true := by unfold needL; cases cutp t s <;> rfl
theorem need_good {t s r : List Int} {b : Bool} (h : needL t s b = (r, false)) : s = t ++ r ∧ b = false := by
  unfold needL at h
  cases hc : cutp t s with
  | some r' => rw [hc] at h; simp only [Prod.mk.injEq] at h; exact ⟨by rw [← h.1]; exact cutp_some _ _ _ hc, h.2⟩
  | none => rw [hc] at h; simp at h
theorem need_is (t r : List Int) (b : Bool) : needL t (t ++ r) b = (r, b) := by unfold needL; rw [cutp_app]
/-! a run of bytes of a kind -/
def dig (c : Int) : Bool := decide (48 ≤ c) && decide (c ≤ 57)
def let_ (c : Int) : Bool := (decide (97 ≤ low c) && decide (low c ≤ 122)) || decide (c = 46)
def atm (c : Int) : Bool := decide (33 ≤ c) && decide (c ≤ 126) && !([40, 41, 123, 37, 42, 34, 92, 93].contains c)
theorem is_dig {c : Int} (h : 0 ≤ c ∧ c ≤ 255) : rdr_is 37 c = dig c := of_bytes (p := fun c => rdr_is 37 c = dig c) (by decide +kernel) h
theorem is_let {c : Int} (h : 0 ≤ c ∧ c ≤ 255) : rdr_is 39 c = let_ c := of_bytes (p := fun c => rdr_is 39 c = let_ c) (by decide +kernel) h
theorem is_atm {c : Int} (h : 0 ≤ c ∧ c ≤ 255) : rdr_is 50 c = atm c := of_bytes (p := fun c => rdr_is 50 c = atm c) (by decide +kernel) h
theorem rdr_n_eq (p q : Int → Bool) : ∀ l : List Int, (∀ c ∈ l, p c = q c) → rdr_n p l = (l.takeWhile q).length
  | [], _ => rfl
  | c :: t, h => by
    have ih := rdr_n_eq p q t (fun x hx => h x (List.mem_cons_of_mem _ hx))
    rw [rdr_n, h c (List.mem_cons_self ..), List.takeWhile_cons]
    cases q c with
    | true => rw [if_pos rfl, if_pos rfl, ih]; rfl
    | false => rw [if_neg (by decide), if_neg (by decide)]; rfl
theorem take_tw (q : Int → Bool) (l : List Int) : l.take (l.takeWhile q).length = l.takeWhile q := by
  conv => lhs; arg 2; rw [← List.takeWhile_append_dropWhile (p := q) (l := l)]
  rw [List.take_left']; rfl
theorem drop_tw (q : Int → Bool) (l : List Int) : l.drop (l.takeWhile q).length = l.dropWhile q := by
  conv => lhs; arg 2; rw [← List.takeWhile_append_dropWhile (p := q) (l := l)]
  rw [List.drop_left']; rfl
theorem run_ok (n : Nat) (q : Int → Bool) (hn : n = 37 ∨ n = 39 ∨ n = 50) (hq : ∀ c, 0 ≤ c ∧ c ≤ 255 → rdr_is n c = q c) {s : List Int} (hb : byte s) (hl : s.length ≤ 1000000) (b : Bool) :
    section_reader_run.f (strOfNums s) b n = some (strOfNums (s.takeWhile q), strOfNums (s.dropWhile q), b) := by
  unfold section_reader_run.f
  rw [if_pos ⟨hn, by rw [strOfNums_size]; omega⟩, bytes_str s hb, rdr_n_eq _ q s (fun c hc => hq c (hb c hc)), str_ex0, str_ex, take_tw, drop_tw]
theorem tw_byte {s : List Int} (hb : byte s) (q : Int → Bool) : byte (s.takeWhile q) := fun c hc => hb c (List.takeWhile_subset _ hc)
theorem dw_byte {s : List Int} (hb : byte s) (q : Int → Bool) : byte (s.dropWhile q) := fun c hc => hb c (List.dropWhile_subset _ hc)
theorem tw_len (q : Int → Bool) (s : List Int) : (s.takeWhile q).length ≤ s.length := by have := congrArg List.length (List.takeWhile_append_dropWhile (p := q) (l := s)); rw [List.length_append] at this; omega
theorem dw_len (q : Int → Bool) (s : List Int) : (s.dropWhile q).length ≤ s.length := by have := congrArg List.length (List.takeWhile_append_dropWhile (p := q) (l := s)); rw [List.length_append] at this; omega
theorem tw_all (q : Int → Bool) (s : List Int) : ∀ c ∈ s.takeWhile q, q c = true := fun c hc => by
  induction s with
  | nil => cases hc
  | cons x t ih =>
    rw [List.takeWhile_cons] at hc
    cases hx : q x with
    | true =>
      rw [hx, if_pos rfl] at hc
      rcases List.mem_cons.1 hc with rfl | hc
      · exact hx
      · exact ih hc
    | false => rw [hx, if_neg (by decide)] at hc; cases hc
/-- does a rest begin with no such byte -/
def stops (q : Int → Bool) (r : List Int) : Prop := ∀ c t, r = c :: t → q c = false
theorem tw_app {q : Int → Bool} {a r : List Int} (ha : ∀ c ∈ a, q c = true) (hr : stops q r) : (a ++ r).takeWhile q = a ∧ (a ++ r).dropWhile q = r := by
  induction a with
  | nil =>
    cases r with
    | nil => exact ⟨rfl, rfl⟩
    | cons c t =>
      have := hr c t rfl
      rw [List.nil_append, List.takeWhile_cons, List.dropWhile_cons, this]
      exact ⟨rfl, rfl⟩
  | cons c a ih =>
    have h := ih (fun x hx => ha x (List.mem_cons_of_mem _ hx))
    rw [List.cons_append, List.takeWhile_cons, List.dropWhile_cons, ha c (List.mem_cons_self ..), if_pos rfl, if_pos rfl, h.1, h.2]
    exact ⟨rfl, rfl⟩
theorem dw_stops (q : Int → Bool) (s : List Int) : stops q (s.dropWhile q) := by
  intro c t h
  induction s with
  | nil => cases h
  | cons x u ih =>
    rw [List.dropWhile_cons] at h
    cases hx : q x with
    | true => rw [hx, if_pos rfl] at h; exact ih h
    | false => rw [hx, if_neg (by decide)] at h; injection h with h1 h2; rw [← h1]; exact hx
def numbL (s : List Int) (b : Bool) : Int × List Int × Bool := ((number (s.takeWhile dig)).1, s.dropWhile dig, if (number (s.takeWhile dig)).2 = true then b else true)
theorem num_ok {s : List Int} (hb : byte s) (hl : s.length ≤ 1000000) (b : Bool) : Ev (fun k => section_reader_number.f k (strOfNums s) b) ((numbL s b).1, strOfNums (numbL s b).2.1, (numbL s b).2.2) := by
  unfold section_reader_number.f numbL
  simp only [run_ok 37 dig (.inl rfl) (fun c h => is_dig h) hb hl b, Option.bind_some]
  refine bnd (numbered _ (tw_byte hb _) (Nat.le_trans (tw_len _ _) hl)) ?_
  cases (number (s.takeWhile dig)).2 with
  | true => exact yes rfl (fin rfl)
  | false => exact no (by decide) (fin rfl)
end Go.Proofs.YtbjbagocnnffaaaDoor.Sec

/- The program's reader: a name, names, what is asked for, a whole text. -/
set_option linter.unusedVariables false
set_option linter.unusedSimpArgs false
set_option linter.unusedSectionVars false
namespace Go.Proofs.YtbjbagocnnffaaaDoor.Sec
open Go.RowKit Go.Proofs.YtbjbagocnnffaaaDoor.P Go.Proofs.YtbjbagocnnffaaaDoorW.PrintWords Go.Proofs.YtbjbagocnnffaaaDoorW.PrintLast Go.Proofs.YtbjbagocnnffaaaDoor.Aids Go.Proofs.YtbjbagocnnffaaaDoor.Chars
theorem shift {α : Type} {g : Nat → Option α} {r : α} (c : Nat) (h : Ev g r) : Ev (fun k => g (k + c)) r := by
  obtain ⟨K, hK⟩ := h
  exact ⟨K, fun k hk => hK (k + c) (by omega)⟩
/-! a quoted name: what stands ahead of the closing quote, and the rest -/
def qscan : Nat → List Int → List Int → Option (List Int × List Int)
  | 0, _, _ => none
  | _ + 1, [], _ => none
  | d + 1, c :: t, acc => if c = 34 then some (acc, t) else if c = 92 then
      (match t with
      | [] => none
      | x :: u => if x = 34 ∨ x = 92 then qscan d u (acc ++ [x]) else none)
    else qscan d t (acc ++ [c])
theorem qscan_cons (d : Nat) (c : Int) (t acc : List Int) : qscan (d + 1) (c :: t) acc = if c = 34 then some (acc, t) else if c = 92 then
      (match t with
      | [] => none
      | x :: u => if x = 34 ∨ x = 92 then qscan d u (acc ++ [x]) else none)
    else qscan d t (acc ++ [c]) := rfl
theorem wr1 {i : Nat} (h : i ≤ 1000000) : wrap64 ((i : Int) + 1) = ((i + 1 : Nat) : Int) := by rw [w64 (by omega) (by omega)]; omega
section
variable {s : List Int} (hb : byte s) (hl : s.length ≤ 1000000)
include hb hl
theorem qscan_ok (d : Nat) : ∀ (i : Nat) (acc : List Int) (b : Bool), s.length - i < d → i ≤ s.length → acc.length ≤ i →
    Ev (fun k => section_reader_name.l0 k acc (i : Int) (strOfNums s) b) (match qscan d (s.drop i) acc with | some r => (strOfNums r.1, strOfNums r.2, b) | none => (strOfNums [], strOfNums s, true)) := by
  induction d with
  | zero => intro i acc b hd; omega
  | succ d ih =>
    intro i acc b hd hi ha
    refine st (fun k => by rw [section_reader_name.l0]) ?_
    simp only [strOfNums_size]
    rcases Nat.lt_or_ge i s.length with hlt | hge
    · have e1 := wr1 (i := i) (by omega)
      have hx := hb _ (rd_mem s i hlt)
      rw [drop_rd s i hlt]
      simp only [str_bt _ hb, e1, qscan]
      refine yes (by omega) (yes (by omega) ?_)
      by_cases h1 : rd s (i : Int) = 34
      · rw [if_pos h1]
        refine yes h1 (yes (by omega) (yes (by omega) (fin ?_)))
        simp only
        rw [Int.toNat_natCast, ← strOfNums_size s, str_ex]
      · rw [if_neg h1]
        refine no h1 ?_
        by_cases h2 : rd s (i : Int) = 92
        · rw [if_pos h2]
          refine yes h2 ?_
          by_cases h3 : i + 1 = s.length
          · rw [List.drop_eq_nil_of_le (by omega)]
            exact yes (by omega) (fin rfl)
          · refine no (by omega) (yes (by omega) (yes (by omega) ?_))
            have e2 := wr1 (i := i + 1) (by omega)
            rw [drop_rd s (i + 1) (by omega)]
            simp only [str_bt _ hb, e2]
            by_cases h4 : rd s ((i + 1 : Nat) : Int) = 34
            · rw [if_pos (.inl h4)]
              exact yes h4 (yes (by omega) (ih (i + 1 + 1) _ b (by omega) (by omega) (by simp; omega)))
            · refine no h4 ?_
              by_cases h5 : rd s ((i + 1 : Nat) : Int) = 92
              · rw [if_pos (.inr h5)]
                exact yes h5 (yes (by omega) (ih (i + 1 + 1) _ b (by omega) (by omega) (by simp; omega)))
              · rw [if_neg (fun h => h.elim h4 h5)]
                exact no h5 (fin rfl)
        · rw [if_neg h2]
          exact no h2 (yes (by omega) (ih (i + 1) _ b (by omega) (by omega) (by simp; omega)))
    · rw [List.drop_eq_nil_of_le hge]
      exact no (by omega) (fin rfl)
end
def nameL (s : List Int) (b : Bool) : List Int × List Int × Bool :=
  match cutp [34] s with
  | some s' => (match qscan (s'.length + 1) s' [] with | some r => (r.1, r.2, b) | none => ([], s', true))
  | none => (s.takeWhile atm, s.dropWhile atm, if s.takeWhile atm = [] then true else b)
theorem name_ok {s : List Int} (hb : byte s) (hl : s.length ≤ 1000000) (b : Bool) : Ev (fun k => section_reader_name.f k (strOfNums s) b) (strOfNums (nameL s b).1, strOfNums (nameL s b).2.1, (nameL s b).2.2) := by
  unfold section_reader_name.f
  have h1 := is_ok hb hl [34] (byte_one (by omega) (by omega)) (by decide) b
  rw [show strOfNums [34] = (⟨#[34]⟩ : ByteArray) from rfl] at h1
  simp only [h1, Option.bind_some]
  unfold nameL
  cases hc : cutp [34] s with
  | some s' =>
    simp only
    have hb' := cutp_byte hb hc
    have hl' := Nat.le_trans (cutp_len hc) hl
    refine yes trivial (toE (qscan_ok hb' hl' (s'.length + 1) 0 [] b (by omega) (by omega) (by simp)) ?_)
    rw [List.drop_zero]
    cases qscan (s'.length + 1) s' [] <;> rfl
  | none =>
    simp only
    refine no (by decide) ?_
    simp only [run_ok 50 atm (.inr (.inr rfl)) (fun c h => is_atm h) hb hl b, Option.bind_some]
    by_cases h : s.takeWhile atm = []
    · refine yes ((str_toList_nil _).2 h) (fin ?_)
      rw [if_pos h]
    · refine no (fun e => h ((str_toList_nil _).1 e)) (fin ?_)
      rw [if_neg h]
theorem qscan_len : ∀ (d : Nat) (t acc : List Int) (r : List Int × List Int), qscan d t acc = some r → r.2.length < t.length
  | 0, _, _, _, h => by simp [qscan] at h
  | d + 1, [], _, _, h => by simp [qscan] at h
  | d + 1, c :: t, acc, r, h => by
    rw [qscan_cons] at h
    by_cases h1 : c = 34
    · rw [if_pos h1] at h; obtain rfl := Option.some.inj h; simp
    · rw [if_neg h1] at h
      by_cases h2 : c = 92
      · rw [if_pos h2] at h
        cases t with
        | nil => cases h
        | cons x u =>
          simp only at h
          by_cases h3 : x = 34 ∨ x = 92
          · rw [if_pos h3] at h; have := qscan_len d u _ r h; simp; omega
          · rw [if_neg h3] at h; cases h
      · rw [if_neg h2] at h; have := qscan_len d t _ r h; simp; omega
theorem qscan_byte : ∀ (d : Nat) (t acc : List Int) (r : List Int × List Int), byte t → byte acc → qscan d t acc = some r → byte r.1 ∧ byte r.2
  | 0, _, _, _, _, _, h => by simp [qscan] at h
  | d + 1, [], _, _, _, _, h => by simp [qscan] at h
  | d + 1, c :: t, acc, r, hb, ha, h => by
    have hc := hb c (List.mem_cons_self ..)
    have ht : byte t := fun x hx => hb x (List.mem_cons_of_mem _ hx)
    rw [qscan_cons] at h
    by_cases h1 : c = 34
    · rw [if_pos h1] at h; obtain rfl := Option.some.inj h; exact ⟨ha, ht⟩
    · rw [if_neg h1] at h
      by_cases h2 : c = 92
      · rw [if_pos h2] at h
        cases t with
        | nil => cases h
        | cons x u =>
          simp only at h
          by_cases h3 : x = 34 ∨ x = 92
          · rw [if_pos h3] at h
            have hx := ht x (List.mem_cons_self ..)
            exact qscan_byte d u _ r (fun y hy => ht y (List.mem_cons_of_mem _ hy)) (byte_append ha (byte_one hx.1 hx.2)) h
          · rw [if_neg h3] at h; cases h
      · rw [if_neg h2] at h; exact qscan_byte d t _ r ht (byte_append ha (byte_one hc.1 hc.2)) h
theorem name_byte {s : List Int} (hb : byte s) (b : Bool) : byte (nameL s b).1 ∧ byte (nameL s b).2.1 := by
  unfold nameL
  cases hc : cutp [34] s with
  | some s' =>
    simp only
    cases hq : qscan (s'.length + 1) s' [] with
    | some r => exact qscan_byte _ _ _ r (cutp_byte hb hc) byte_nil hq
    | none => exact ⟨byte_nil, cutp_byte hb hc⟩
  | none => exact ⟨tw_byte hb _, dw_byte hb _⟩
theorem name_len (s : List Int) (b : Bool) : (nameL s b).2.1.length ≤ s.length := by
  unfold nameL
  cases hc : cutp [34] s with
  | some s' =>
    simp only
    have := cutp_len hc
    cases hq : qscan (s'.length + 1) s' [] with
    | some r => have := qscan_len _ _ _ r hq; simp only; omega
    | none => exact this
  | none => exact dw_len _ _
theorem name_bad (s : List Int) : (nameL s true).2.2 = true := by
  unfold nameL
  cases cutp [34] s with
  | some s' => simp only; cases qscan (s'.length + 1) s' [] <;> rfl
  | none => simp only; split <;> rfl
/-! names between brackets -/
def namesR : Nat → List (List Int) → List Int → Bool → List (List Int) × List Int × Bool
  | 0, l, s, _ => (l, s, true)
  | d + 1, l, s, b => if b = true then (l, needL [41] s b) else
    match cutp [32] s with
    | some r => namesR d (l ++ [(nameL r b).1]) (nameL r b).2.1 (nameL r b).2.2
    | none => (l, needL [41] s b)
def namesL (s : List Int) (b : Bool) : List (List Int) × List Int × Bool :=
  let t := needL [32, 40] s b
  let n := nameL t.1 t.2
  namesR (n.2.1.length + 1) [n.1] n.2.1 n.2.2
def strs (L : List (List Int)) : List ByteArray := L.map strOfNums
theorem namesR_ok (d : Nat) : ∀ (l : List (List Int)) (s : List Int) (b : Bool), byte s → s.length < d → s.length ≤ 1000000 → l.length + s.length ≤ 2000000 →
    Ev (fun k => section_reader_names.l0 k (strs l) (strOfNums s) b) (strs (namesR d l s b).1, strOfNums (namesR d l s b).2.1, (namesR d l s b).2.2) := by
  induction d with
  | zero => intro l s b _ h; omega
  | succ d ih =>
    intro l s b hb hd hl hn
    refine st (fun k => by rw [section_reader_names.l0]) ?_
    have n1 := need_ok hb hl [41] (byte_one (by omega) (by omega)) (by decide) b
    rw [show strOfNums [41] = (⟨#[41]⟩ : ByteArray) from rfl] at n1
    have h1 := is_ok hb hl [32] (byte_one (by omega) (by omega)) (by decide) b
    rw [show strOfNums [32] = (⟨#[32]⟩ : ByteArray) from rfl] at h1
    rw [namesR]
    by_cases hbb : b = true
    · rw [if_pos hbb]
      refine yes hbb ?_
      simp only [n1, Option.bind_some]
      exact fin rfl
    · rw [if_neg hbb]
      refine no hbb ?_
      simp only [h1, Option.bind_some]
      cases hc : cutp [32] s with
      | some r =>
        simp only
        have hr := cutp_byte hb hc
        have hrl := congrArg List.length (cutp_some _ _ _ hc)
        rw [List.length_append] at hrl
        simp only [List.length_cons, List.length_nil] at hrl
        have hnb := name_byte hr b
        have hnl := name_len r b
        refine yes trivial (bnd (name_ok hr (by omega) b) (yes ?_ ?_))
        · unfold strs; rw [List.length_map]; omega
        · have := ih (l ++ [(nameL r b).1]) (nameL r b).2.1 (nameL r b).2.2 hnb.2 (by omega) (by omega) (by simp; omega)
          unfold strs at this ⊢
          rw [List.map_append] at this
          exact this
      | none =>
        simp only
        refine no (by decide) ?_
        simp only [n1, Option.bind_some]
        exact fin rfl
theorem names_ok {s : List Int} (hb : byte s) (hl : s.length ≤ 1000000) (b : Bool) : Ev (fun k => section_reader_names.f k (strOfNums s) b) (strs (namesL s b).1, strOfNums (namesL s b).2.1, (namesL s b).2.2) := by
  unfold section_reader_names.f namesL
  have n1 := need_ok hb hl [32, 40] (byte_cons (by omega) (byte_one (by omega) (by omega))) (by decide) b
  rw [show strOfNums [32, 40] = (⟨#[32, 40]⟩ : ByteArray) from rfl] at n1
  simp only [n1, Option.bind_some]
  have hb1 := need_byte (t := [32, 40]) hb b
  have hl1 := need_len [32, 40] s b
  have hnb := name_byte hb1 (needL [32, 40] s b).2
  have hnl := name_len (needL [32, 40] s b).1 (needL [32, 40] s b).2
  refine bnd (name_ok hb1 (by omega) _) ?_
  exact namesR_ok ((nameL (needL [32, 40] s b).1 (needL [32, 40] s b).2).2.1.length + 1) [(nameL (needL [32, 40] s b).1 (needL [32, 40] s b).2).1] (nameL (needL [32, 40] s b).1 (needL [32, 40] s b).2).2.1 (nameL (needL [32, 40] s b).1 (needL [32, 40] s b).2).2.2 hnb.2 (by omega) (by omega) (by simp only [List.length_cons, List.length_nil]; omega)
theorem namesR_byte (d : Nat) : ∀ (l : List (List Int)) (s : List Int) (b : Bool), byte s → (∀ x ∈ l, byte x) → (∀ x ∈ (namesR d l s b).1, byte x) ∧ byte (namesR d l s b).2.1 ∧ (namesR d l s b).2.1.length ≤ s.length := by
  induction d with
  | zero => intro l s b hs hx; exact ⟨hx, hs, Nat.le_refl _⟩
  | succ d ih =>
    intro l s b hs hx
    rw [namesR]
    by_cases hbb : b = true
    · rw [if_pos hbb]; exact ⟨hx, need_byte hs b, need_len _ _ _⟩
    · rw [if_neg hbb]
      cases hc : cutp [32] s with
      | some r =>
        simp only
        have hnb := name_byte (cutp_byte hs hc) b
        have h := ih (l ++ [(nameL r b).1]) (nameL r b).2.1 (nameL r b).2.2 hnb.2 (fun x h => (List.mem_append.1 h).elim (hx x) (fun h => by rw [List.mem_singleton.1 h]; exact hnb.1))
        exact ⟨h.1, h.2.1, Nat.le_trans h.2.2 (Nat.le_trans (name_len r b) (cutp_len hc))⟩
      | none => exact ⟨hx, need_byte hs b, need_len _ _ _⟩
theorem names_byte {s : List Int} (hb : byte s) (b : Bool) : (∀ x ∈ (namesL s b).1, byte x) ∧ byte (namesL s b).2.1 ∧ (namesL s b).2.1.length ≤ s.length := by
  unfold namesL
  have hb1 := need_byte (t := [32, 40]) hb b
  have hnb := name_byte hb1 (needL [32, 40] s b).2
  have h := namesR_byte ((nameL (needL [32, 40] s b).1 (needL [32, 40] s b).2).2.1.length + 1) [(nameL (needL [32, 40] s b).1 (needL [32, 40] s b).2).1] (nameL (needL [32, 40] s b).1 (needL [32, 40] s b).2).2.1 (nameL (needL [32, 40] s b).1 (needL [32, 40] s b).2).2.2 hnb.2 (fun x hx => by rw [List.mem_singleton.1 hx]; exact hnb.1)
  exact ⟨h.1, h.2.1, Nat.le_trans h.2.2 (Nat.le_trans (name_len _ _) (need_len _ _ _))⟩
end Go.Proofs.YtbjbagocnnffaaaDoor.Sec

/- The program's reader: what is asked for, whether a spec may be, a whole text. -/
set_option linter.unusedVariables false
set_option linter.unusedSimpArgs false
set_option linter.unusedSectionVars false
namespace Go.Proofs.YtbjbagocnnffaaaDoor.Sec
open Go.RowKit Go.Proofs.YtbjbagocnnffaaaDoor.P Go.Proofs.YtbjbagocnnffaaaDoorW.PrintWords Go.Proofs.YtbjbagocnnffaaaDoorW.PrintLast Go.Proofs.YtbjbagocnnffaaaDoor.Aids Go.Proofs.YtbjbagocnnffaaaDoor.Chars
/-! the word that is the same -/
def wordL (x : Nat) : List Int := ([[], [72, 69, 65, 68, 69, 82], [72, 69, 65, 68, 69, 82, 46, 70, 73, 69, 76, 68, 83], [72, 69, 65, 68, 69, 82, 46, 70, 73, 69, 76, 68, 83, 46, 78, 79, 84], [84, 69, 88, 84], [77, 73, 77, 69]] : List (List Int)).getD x []
def findL (w : List Int) : Option Nat := if lows (wordL 1) = lows w then some 1 else if lows (wordL 2) = lows w then some 2 else if lows (wordL 3) = lows w then some 3 else if lows (wordL 4) = lows w then some 4 else if lows (wordL 5) = lows w then some 5 else none
theorem word_is : ∀ x : Fin 6, sec_word ((x.val : Nat) : Int) = strOfNums (wordL x.val) ∧ byte (wordL x.val) ∧ (wordL x.val).length ≤ 100 := by
  have h : ∀ x : Fin 6, (∀ c ∈ wordL x.val, 0 ≤ c ∧ c ≤ 255) ∧ (wordL x.val).length ≤ 100 := by decide
  intro x
  refine ⟨?_, (h x).1, (h x).2⟩
  obtain ⟨x, hx⟩ := x
  have : x = 0 ∨ x = 1 ∨ x = 2 ∨ x = 3 ∨ x = 4 ∨ x = 5 := by omega
  rcases this with rfl | rfl | rfl | rfl | rfl | rfl <;> rfl
theorem find_ok {w : List Int} (hb : byte w) (hl : w.length ≤ 1000000) : sec_find (strOfNums w) 6 0 = some (findL w) := by
  have sm : ∀ x : Nat, x < 6 → chars_Same.f (sec_word (x : Int)) (strOfNums w) = some (lows (wordL x) == lows w) := by
    intro x hx
    have := word_is ⟨x, hx⟩
    rw [this.1]
    exact same _ _ this.2.1 hb (by have := this.2.2; simp only at this; omega) hl
  have s1 := sm 1 (by decide)
  have s2 := sm 2 (by decide)
  have s3 := sm 3 (by decide)
  have s4 := sm 4 (by decide)
  have s5 := sm 5 (by decide)
  show (chars_Same.f (sec_word ((1 : Nat) : Int)) (strOfNums w)).bind (fun t => if t = true then some (some 1) else (chars_Same.f (sec_word ((2 : Nat) : Int)) (strOfNums w)).bind fun t => if t = true then some (some 2) else (chars_Same.f (sec_word ((3 : Nat) : Int)) (strOfNums w)).bind fun t => if t = true then some (some 3) else (chars_Same.f (sec_word ((4 : Nat) : Int)) (strOfNums w)).bind fun t => if t = true then some (some 4) else (chars_Same.f (sec_word ((5 : Nat) : Int)) (strOfNums w)).bind fun t => if t = true then some (some 5) else some none) = _
  rw [s1, s2, s3, s4, s5]
  unfold findL
  simp only [Option.bind_some, beq_iff_eq]
  repeat' split
  all_goals rfl
/-! what is asked for -/
def tailL (s : List Int) (b : Bool) (p : List Int) : List Int × Int × List Int × Bool :=
  if s.takeWhile let_ = [] then (p, 0, s.dropWhile let_, if 0 < p.length then true else b)
  else match findL (s.takeWhile let_) with | some x => (p, (x : Int), s.dropWhile let_, b) | none => (p, 0, s.dropWhile let_, true)
def headD (s : List Int) : Bool := match s with | c :: _ => dig c | [] => false
def whatL : Nat → List Int → Bool → List Int → List Int × Int × List Int × Bool
  | 0, s, _, p => (p, 0, s, true)
  | d + 1, s, b, p => if headD s = true ∧ b = false then
      match cutp [46] (numbL s b).2.1 with
      | some r => whatL d r (numbL s b).2.2 (p ++ [(numbL s b).1])
      | none => (p ++ [(numbL s b).1], 0, (numbL s b).2.1, (numbL s b).2.2)
    else tailL s b p
theorem tail_ok {s : List Int} (hb : byte s) (hl : s.length ≤ 1000000) (b : Bool) (p : List Int) : sec_tail (strOfNums s) b p = some ((tailL s b p).1, (tailL s b p).2.1, strOfNums (tailL s b p).2.2.1, (tailL s b p).2.2.2) := by
  unfold sec_tail tailL
  rw [run_ok 39 let_ (.inr (.inl rfl)) (fun c h => is_let h) hb hl b, Option.bind_some]
  simp only
  by_cases h : s.takeWhile let_ = []
  · rw [if_pos ((str_toList_nil _).2 h), if_pos h]
  · rw [if_neg (fun e => h ((str_toList_nil _).1 e)), if_neg h, find_ok (tw_byte hb _) (Nat.le_trans (tw_len _ _) hl), Option.bind_some]
    cases findL (s.takeWhile let_) <;> rfl
theorem head_dig {s : List Int} (hb : byte s) : (0 < (strOfNums s).size ∧ rdr_is 37 (bt (strOfNums s) 0) = true) ↔ headD s = true := by
  rw [strOfNums_size, str_bt s hb]
  cases s with
  | nil => simp [headD]
  | cons c t =>
    have e : rd (c :: t) 0 = c := rfl
    rw [e, is_dig (hb c (List.mem_cons_self ..))]
    simp [headD]
theorem dig_drop {s : List Int} (h : headD s = true) : (s.dropWhile dig).length < s.length := by
  cases s with
  | nil => cases h
  | cons c t =>
    have h : dig c = true := h
    rw [List.dropWhile_cons, h, if_pos rfl]
    have := dw_len dig t
    simp only [List.length_cons]; omega
theorem what_ok (d : Nat) : ∀ (m : Nat) (s : List Int) (b : Bool) (p : List Int), byte s → s.length < d → s.length ≤ 100000 → p.length + s.length ≤ 200000 →
    Ev (fun k => sec_what (k + m) k (strOfNums s) b p) ((whatL d s b p).1, (whatL d s b p).2.1, strOfNums (whatL d s b p).2.2.1, (whatL d s b p).2.2.2) := by
  induction d with
  | zero => intro m s b p _ h; omega
  | succ d ih =>
    intro m s b p hb hd hl hp
    refine st (f := fun k => if (0 < (strOfNums s).size ∧ rdr_is 37 (bt (strOfNums s) 0) = true) ∧ b = false then
      (section_reader_number.f (k + (m + 1)) (strOfNums s) b).bind fun t => if p.length < 1000000 then (section_reader_is.f t.2.1 t.2.2 (⟨#[46]⟩ : ByteArray)).bind fun u => if u.1 = true then sec_what (k + (m + 1)) k u.2.1 u.2.2 (p ++ [t.1]) else some (p ++ [t.1], 0, u.2.1, u.2.2) else none
    else sec_tail (strOfNums s) b p) (fun k => by rw [sec_what, show k + 1 + m = k + (m + 1) by omega]) ?_
    rw [whatL]
    by_cases h : headD s = true ∧ b = false
    · rw [if_pos h]
      refine yes ⟨(head_dig hb).2 h.1, h.2⟩ (bnd (shift (m + 1) (num_ok hb (by omega) b)) (yes (by omega) ?_))
      have hnb : byte (numbL s b).2.1 := dw_byte hb _
      have hnl : (numbL s b).2.1.length < s.length := dig_drop h.1
      have h1 := is_ok hnb (by omega) [46] (byte_one (by omega) (by omega)) (by decide) (numbL s b).2.2
      rw [show strOfNums [46] = (⟨#[46]⟩ : ByteArray) from rfl] at h1
      simp only [h1, Option.bind_some]
      cases hc : cutp [46] (numbL s b).2.1 with
      | some r =>
        simp only
        have hrl := cutp_len hc
        exact yes trivial (ih (m + 1) r _ _ (cutp_byte hnb hc) (by omega) (by omega) (by simp; omega))
      | none =>
        simp only
        exact no (by decide) (fin rfl)
    · rw [if_neg h]
      refine no (fun e => h ⟨(head_dig hb).1 e.1, e.2⟩) ?_
      simp only [tail_ok hb (by omega) b p]
      exact fin rfl
theorem what_byte (d : Nat) : ∀ (s : List Int) (b : Bool) (p : List Int), byte s → byte (whatL d s b p).2.2.1 ∧ (whatL d s b p).2.2.1.length ≤ s.length := by
  induction d with
  | zero => intro s b p hb; exact ⟨hb, Nat.le_refl _⟩
  | succ d ih =>
    intro s b p hb
    rw [whatL]
    by_cases h : headD s = true ∧ b = false
    · rw [if_pos h]
      have hnb : byte (numbL s b).2.1 := dw_byte hb _
      have hnl : (numbL s b).2.1.length ≤ s.length := dw_len _ _
      cases hc : cutp [46] (numbL s b).2.1 with
      | some r =>
        simp only
        have h2 := ih r (numbL s b).2.2 (p ++ [(numbL s b).1]) (cutp_byte hnb hc)
        exact ⟨h2.1, Nat.le_trans h2.2 (Nat.le_trans (cutp_len hc) hnl)⟩
      | none => exact ⟨hnb, hnl⟩
    · rw [if_neg h]
      unfold tailL
      split
      · exact ⟨dw_byte hb _, dw_len _ _⟩
      · split
        · exact ⟨dw_byte hb _, dw_len _ _⟩
        · exact ⟨dw_byte hb _, dw_len _ _⟩
/-! a spec, and whether it may be -/
structure Sp where
  p : List Int
  q : Int
  nm : List (List Int)
  cut : Bool
  fr : Int
  mn : Int
def pr (c : Int) : Bool := decide (32 ≤ c) && decide (c ≤ 126)
def within (n l : Int) : Bool := decide (l ≤ n) && decide (n ≤ 4294967295)
def listed (q : Int) : Bool := decide (q = 2) || decide (q = 3)
def may (x : Sp) : Bool := decide (x.p.length ≤ 64) && decide (0 ≤ x.q) && decide (x.q ≤ 5) && (decide (x.q ≠ 5) || decide (0 < x.p.length)) && x.p.all (within · 1) && x.nm.all (·.all pr) &&
  (if listed x.q then decide (1 ≤ x.nm.length) && decide (x.nm.length ≤ 100) else decide (x.nm.length = 0)) && (if x.cut then within x.fr 0 && within x.mn 1 else decide (x.fr = 0) && decide (x.mn = 0))
theorem listed_ok (q : Int) (a : List Int) (n : List ByteArray) (c : Bool) (f m : Int) : section_Spec_listed.f a q n c f m = some (listed q) := by
  unfold section_Spec_listed.f listed
  by_cases h : q = 2
  · rw [if_pos h, h]; rfl
  · rw [if_neg h]; simp [h]
    by_cases h3 : q = 3 <;> simp [h3]
theorem within_ok (n l : Int) : section_within.f n l = some (within n l) := by
  unfold section_within.f within
  by_cases h : n ≥ l
  · rw [if_pos h, decide_eq_true (show l ≤ n from h)]; rfl
  · rw [if_neg h, decide_eq_false (show ¬ l ≤ n from h)]; rfl
theorem printed_l0 {s : List Int} (hb : byte s) (hl : s.length ≤ 1000000) (d : Nat) : ∀ i : Nat, s.length - i ≤ d → i ≤ s.length → Ev (fun k => section_printed.l0 k (strOfNums s) (s.length : Int) (i : Int)) ((s.drop i).all pr) := by
  induction d with
  | zero =>
    intro i hd hi
    refine st (fun k => by rw [section_printed.l0]) (no (by omega) (fin ?_))
    rw [List.drop_eq_nil_of_le (by omega)]; rfl
  | succ d ih =>
    intro i hd hi
    refine st (fun k => by rw [section_printed.l0]) ?_
    rcases Nat.lt_or_ge i s.length with hlt | hge
    · have e1 := wr1 (i := i) (by omega)
      simp only [strOfNums_size, str_bt _ hb, e1]
      rw [drop_rd s i hlt, List.all_cons]
      refine yes (by omega) (yes (by omega) (yes (by omega) ?_))
      unfold pr
      by_cases h1 : rd s (i : Int) < 32
      · refine yes h1 (fin ?_)
        rw [decide_eq_false (show ¬ 32 ≤ rd s (i : Int) by omega)]; rfl
      · refine no h1 ?_
        by_cases h2 : rd s (i : Int) ≥ 127
        · refine yes h2 (fin ?_)
          rw [decide_eq_false (show ¬ rd s (i : Int) ≤ 126 by omega), Bool.and_false]; rfl
        · refine no h2 (toE (ih (i + 1) (by omega) hlt) ?_)
          rw [decide_eq_true (show 32 ≤ rd s (i : Int) by omega), decide_eq_true (show rd s (i : Int) ≤ 126 by omega)]; rfl
    · refine no (by omega) (fin ?_)
      rw [List.drop_eq_nil_of_le (by omega)]; rfl
theorem printed_ok {s : List Int} (hb : byte s) (hl : s.length ≤ 1000000) : Ev (fun k => section_printed.f k (strOfNums s)) (s.all pr) := by
  unfold section_printed.f
  rw [strOfNums_size]
  exact printed_l0 hb hl s.length 0 (by omega) (by omega)
theorem rdOf_at {α : Type} (d : α) (l : List α) (i : Nat) (h : i < l.length) : rdOf d l (i : Int) = l[i] := by
  show l.getD (i : Int).toNat d = l[i]
  rw [Int.toNat_natCast, List.getD_eq_getElem?_getD, List.getElem?_eq_getElem h]; rfl
theorem strs_at (L : List (List Int)) (i : Nat) (h : i < L.length) : rdOf ByteArray.empty (strs L) (i : Int) = strOfNums L[i] := by
  rw [rdOf_at _ _ i (by unfold strs; rw [List.length_map]; exact h)]
  unfold strs
  rw [List.getElem_map]
section
variable (x : Sp) (hb : ∀ n ∈ x.nm, byte n) (hn : ∀ n ∈ x.nm, n.length ≤ 1000000) (h1 : x.p.length ≤ 1000000) (h2 : x.nm.length ≤ 1000000)
include hb hn h1 h2
theorem check_j3 (ok : Bool) : Ev (fun k => section_Check.j3 k ok x.p x.q (strs x.nm) x.cut x.fr x.mn) (if (ok && (if x.cut then within x.fr 0 && within x.mn 1 else decide (x.fr = 0) && decide (x.mn = 0))) = true then 0 else 1) := by
  refine st (fun k => by rw [section_Check.j3]) ?_
  simp only [within_ok, Option.bind_some]
  cases ok with
  | false =>
    cases x.cut with
    | true => exact yes rfl (no (by decide) (fin rfl))
    | false => exact no (by decide) (no (by decide) (fin rfl))
  | true =>
    cases x.cut with
    | true =>
      refine yes rfl (yes rfl ?_)
      cases within x.fr 0 with
      | true =>
        refine yes rfl ?_
        cases within x.mn 1 with
        | true => exact yes rfl (fin rfl)
        | false => exact no (by decide) (fin rfl)
      | false => exact no (by decide) (fin rfl)
    | false =>
      refine no (by decide) (yes rfl ?_)
      by_cases hf : x.fr = 0
      · refine yes hf ?_
        by_cases hm : x.mn = 0
        · exact yes hm (fin (by simp [hf, hm]))
        · exact no hm (fin (by simp [hf, hm]))
      · exact no hf (fin (by simp [hf]))
theorem check_l1 (d : Nat) : ∀ (i : Nat) (ok : Bool), x.nm.length - i ≤ d → i ≤ x.nm.length →
    Ev (fun k => section_Check.l1 k ok (strs x.nm) (x.nm.length : Int) (i : Int) x.p x.q (strs x.nm) x.cut x.fr x.mn) (if (ok && (x.nm.drop i).all (·.all pr) && (if listed x.q then decide (1 ≤ x.nm.length) && decide (x.nm.length ≤ 100) else decide (x.nm.length = 0)) && (if x.cut then within x.fr 0 && within x.mn 1 else decide (x.fr = 0) && decide (x.mn = 0))) = true then 0 else 1) := by
  have hlen : (strs x.nm).length = x.nm.length := by unfold strs; rw [List.length_map]
  induction d with
  | zero =>
    intro i ok hd hi
    have e : i = x.nm.length := by omega
    subst e
    refine st (fun k => by rw [section_Check.l1]) (no (by omega) ?_)
    simp only [listed_ok, Option.bind_some, hlen]
    rw [List.drop_eq_nil_of_le (Nat.le_refl _), List.all_nil, Bool.and_true]
    cases hls : listed x.q with
    | true =>
      refine yes rfl ?_
      cases ok with
      | true =>
        refine yes rfl ?_
        by_cases hg : (x.nm.length : Int) ≥ 1
        · refine yes hg (toE (check_j3 x hb hn h1 h2 _) ?_)
          rw [if_pos rfl, decide_eq_true (show 1 ≤ x.nm.length by omega), show decide ((x.nm.length : Int) ≤ 100) = decide (x.nm.length ≤ 100) by simp only [decide_eq_decide]; omega]
          rfl
        · refine no hg (toE (check_j3 x hb hn h1 h2 _) ?_)
          rw [if_pos rfl, decide_eq_false (show ¬ 1 ≤ x.nm.length by omega)]; rfl
      | false => exact no (by decide) (toE (check_j3 x hb hn h1 h2 _) (by simp))
    | false =>
      refine no (by decide) ?_
      cases ok with
      | true =>
        refine yes rfl (toE (check_j3 x hb hn h1 h2 _) ?_)
        rw [show ((x.nm.length : Int) == 0) = decide (x.nm.length = 0) by rw [Bool.eq_iff_iff]; simp]
        simp
      | false => exact no (by decide) (toE (check_j3 x hb hn h1 h2 _) (by simp))
  | succ d ih =>
    intro i ok hd hi
    rcases Nat.lt_or_ge i x.nm.length with hlt | hge
    · refine st (fun k => by rw [section_Check.l1]) ?_
      have e1 := wr1 (i := i) (by omega)
      simp only [strs_at _ i hlt, e1, hlen]
      refine yes (by omega) (yes (by omega) (yes (by omega) ?_))
      rw [List.drop_eq_getElem_cons hlt, List.all_cons]
      cases ok with
      | true =>
        refine yes rfl (bnd (printed_ok (hb _ (List.getElem_mem hlt)) (hn _ (List.getElem_mem hlt))) (toE (ih (i + 1) _ (by omega) hlt) ?_))
        simp [Bool.and_assoc]
      | false =>
        refine no (by decide) (toE (ih (i + 1) _ (by omega) hlt) ?_)
        simp
    · have e : i = x.nm.length := by omega
      exact ih i ok (by omega) hi
theorem check_l0 (d : Nat) : ∀ (i : Nat) (ok : Bool), x.p.length - i ≤ d → i ≤ x.p.length →
    Ev (fun k => section_Check.l0 k ok x.p (x.p.length : Int) (i : Int) x.p x.q (strs x.nm) x.cut x.fr x.mn) (if (ok && (x.p.drop i).all (within · 1) && x.nm.all (·.all pr) && (if listed x.q then decide (1 ≤ x.nm.length) && decide (x.nm.length ≤ 100) else decide (x.nm.length = 0)) && (if x.cut then within x.fr 0 && within x.mn 1 else decide (x.fr = 0) && decide (x.mn = 0))) = true then 0 else 1) := by
  have hlen : (strs x.nm).length = x.nm.length := by unfold strs; rw [List.length_map]
  induction d with
  | zero =>
    intro i ok hd hi
    refine st (fun k => by rw [section_Check.l0]) (no (by omega) ?_)
    rw [List.drop_eq_nil_of_le (by omega), List.all_nil, Bool.and_true]
    have := check_l1 x hb hn h1 h2 x.nm.length 0 ok (by omega) (by omega)
    rw [List.drop_zero] at this
    rw [hlen]
    exact this
  | succ d ih =>
    intro i ok hd hi
    rcases Nat.lt_or_ge i x.p.length with hlt | hge
    · refine st (fun k => by rw [section_Check.l0]) ?_
      have e1 := wr1 (i := i) (by omega)
      simp only [within_ok, Option.bind_some, e1]
      refine yes (by omega) (yes (by omega) (yes (by omega) ?_))
      rw [drop_rd x.p i hlt, List.all_cons]
      cases ok with
      | true =>
        refine yes rfl (toE (ih (i + 1) _ (by omega) hlt) ?_)
        simp [Bool.and_assoc]
      | false =>
        refine no (by decide) (toE (ih (i + 1) _ (by omega) hlt) ?_)
        simp
    · exact ih i ok (by omega) hi
theorem check_ok : Ev (fun k => section_Check.f k x.p x.q (strs x.nm) x.cut x.fr x.mn) (if may x = true then 0 else 1) := by
  have key : ∀ ok : Bool, Ev (fun k => section_Check.j0 k ok x.p x.q (strs x.nm) x.cut x.fr x.mn) (if (ok && x.p.all (within · 1) && x.nm.all (·.all pr) && (if listed x.q then decide (1 ≤ x.nm.length) && decide (x.nm.length ≤ 100) else decide (x.nm.length = 0)) && (if x.cut then within x.fr 0 && within x.mn 1 else decide (x.fr = 0) && decide (x.mn = 0))) = true then 0 else 1) := by
    intro ok
    refine st (fun k => by rw [section_Check.j0]) ?_
    have := check_l0 x hb hn h1 h2 x.p.length 0 ok (by omega) (by omega)
    rw [List.drop_zero] at this
    exact this
  unfold section_Check.f may
  by_cases c1 : (x.p.length : Int) ≤ 64
  · refine yes c1 ?_
    rw [decide_eq_true (show x.p.length ≤ 64 by omega)]
    by_cases c2 : x.q ≥ 0
    · refine yes c2 ?_
      rw [decide_eq_true (show 0 ≤ x.q from c2)]
      by_cases c3 : x.q ≤ 5
      · refine yes c3 ?_
        rw [decide_eq_true c3]
        by_cases c4 : x.q = 5
        · refine yes c4 (toE (key _) ?_)
          rw [decide_eq_false (show ¬ x.q ≠ 5 from fun h => h c4), show decide ((x.p.length : Int) > 0) = decide (0 < x.p.length) by simp only [decide_eq_decide]; omega]
          rfl
        · refine no c4 (toE (key _) ?_)
          rw [decide_eq_true (show x.q ≠ 5 from c4)]; rfl
      · refine no c3 (toE (key _) ?_)
        rw [decide_eq_false c3]; simp
    · refine no c2 (toE (key _) ?_)
      rw [decide_eq_false (show ¬ 0 ≤ x.q from c2)]; simp
  · refine no c1 (toE (key _) ?_)
    rw [decide_eq_false (show ¬ x.p.length ≤ 64 by omega)]; simp
end
end Go.Proofs.YtbjbagocnnffaaaDoor.Sec

/- The program's reader: what a whole text leads to. -/
set_option linter.unusedVariables false
set_option linter.unusedSimpArgs false
set_option linter.unusedSectionVars false
namespace Go.Proofs.YtbjbagocnnffaaaDoor.Sec
open Go.RowKit Go.Proofs.YtbjbagocnnffaaaDoor.P Go.Proofs.YtbjbagocnnffaaaDoorW.PrintWords Go.Proofs.YtbjbagocnnffaaaDoorW.PrintLast Go.Proofs.YtbjbagocnnffaaaDoor.Aids Go.Proofs.YtbjbagocnnffaaaDoor.Chars
def finL (p : List Int) (q : Int) (nm : List (List Int)) (s : List Int) (b cut : Bool) (fr mn : Int) : Option Sp := if b = true then none else if s = [] then some ⟨p, q, nm, cut, fr, mn⟩ else none
def cutL (p : List Int) (q : Int) (nm : List (List Int)) (s : List Int) (b : Bool) : Option Sp :=
  match cutp [60] (needL [93] s b).1 with
  | some r =>
    let n := numbL r (needL [93] s b).2
    let d := needL [46] n.2.1 n.2.2
    let m := numbL d.1 d.2
    let e := needL [62] m.2.1 m.2.2
    finL p q nm e.1 e.2 true n.1 m.1
  | none => finL p q nm (needL [93] s b).1 (needL [93] s b).2 false 0 0
def parseL (t : List Int) : Option Sp :=
  let a := needL [91] t false
  let u := whatL (a.1.length + 1) a.1 a.2 []
  if listed u.2.1 = true ∧ u.2.2.2 = false then
    let n := namesL u.2.2.1 u.2.2.2
    cutL u.1 u.2.1 n.1 n.2.1 n.2.2
  else cutL u.1 u.2.1 [] u.2.2.1 u.2.2.2
def outL : Option Sp → SecT
  | some x => if may x = true then (x.p, x.q, strs x.nm, x.cut, x.fr, x.mn, 0) else sec_none
  | none => sec_none
theorem what_plen (d : Nat) : ∀ (s : List Int) (b : Bool) (p : List Int), (whatL d s b p).1.length ≤ p.length + s.length := by
  induction d with
  | zero => intro s b p; exact Nat.le_add_right _ _
  | succ d ih =>
    intro s b p
    rw [whatL]
    by_cases h : headD s = true ∧ b = false
    · rw [if_pos h]
      have hnl : (numbL s b).2.1.length < s.length := dig_drop h.1
      cases hc : cutp [46] (numbL s b).2.1 with
      | some r =>
        simp only
        have h1 := ih r (numbL s b).2.2 (p ++ [(numbL s b).1])
        have h2 := cutp_len hc
        rw [List.length_append] at h1
        simp only [List.length_cons, List.length_nil] at h1
        omega
      | none => simp only [List.length_append, List.length_cons, List.length_nil]; omega
    · rw [if_neg h]
      unfold tailL
      split
      · exact Nat.le_add_right _ _
      · split <;> exact Nat.le_add_right _ _
theorem qscan_alen : ∀ (d : Nat) (t acc : List Int) (r : List Int × List Int), qscan d t acc = some r → r.1.length ≤ acc.length + t.length
  | 0, _, _, _, h => by simp [qscan] at h
  | d + 1, [], _, _, h => by simp [qscan] at h
  | d + 1, c :: t, acc, r, h => by
    rw [qscan_cons] at h
    by_cases h1 : c = 34
    · rw [if_pos h1] at h; obtain rfl := Option.some.inj h; simp
    · rw [if_neg h1] at h
      by_cases h2 : c = 92
      · rw [if_pos h2] at h
        cases t with
        | nil => cases h
        | cons x u =>
          simp only at h
          by_cases h3 : x = 34 ∨ x = 92
          · rw [if_pos h3] at h; have := qscan_alen d u _ r h; simp at this ⊢; omega
          · rw [if_neg h3] at h; cases h
      · rw [if_neg h2] at h; have := qscan_alen d t _ r h; simp at this ⊢; omega
theorem name_alen (s : List Int) (b : Bool) : (nameL s b).1.length ≤ s.length := by
  unfold nameL
  cases hc : cutp [34] s with
  | some s' =>
    simp only
    have := cutp_len hc
    cases hq : qscan (s'.length + 1) s' [] with
    | some r => have := qscan_alen _ _ _ r hq; simp only [List.length_nil] at this ⊢; omega
    | none => simp
  | none => exact tw_len _ _
theorem namesR_alen (d m : Nat) : ∀ (l : List (List Int)) (s : List Int) (b : Bool), s.length ≤ m → (∀ x ∈ l, x.length ≤ m) → (∀ x ∈ (namesR d l s b).1, x.length ≤ m) ∧ (namesR d l s b).1.length ≤ l.length + s.length := by
  induction d with
  | zero => intro l s b hs hx; exact ⟨hx, Nat.le_add_right _ _⟩
  | succ d ih =>
    intro l s b hs hx
    rw [namesR]
    by_cases hbb : b = true
    · rw [if_pos hbb]; exact ⟨hx, Nat.le_add_right _ _⟩
    · rw [if_neg hbb]
      cases hc : cutp [32] s with
      | some r =>
        simp only
        have hrl := congrArg List.length (cutp_some _ _ _ hc)
        rw [List.length_append] at hrl
        simp only [List.length_cons, List.length_nil] at hrl
        have h1 := name_alen r b
        have h2 := name_len r b
        have h := ih (l ++ [(nameL r b).1]) (nameL r b).2.1 (nameL r b).2.2 (by omega) (fun x h => (List.mem_append.1 h).elim (hx x) (fun h => by rw [List.mem_singleton.1 h]; omega))
        refine ⟨h.1, Nat.le_trans h.2 ?_⟩
        simp only [List.length_append, List.length_cons, List.length_nil]; omega
      | none => exact ⟨hx, Nat.le_add_right _ _⟩
theorem names_alen (s : List Int) (b : Bool) : (∀ x ∈ (namesL s b).1, x.length ≤ s.length) ∧ (namesL s b).1.length ≤ s.length + 1 := by
  unfold namesL
  have h0 := need_len [32, 40] s b
  have h1 := name_alen (needL [32, 40] s b).1 (needL [32, 40] s b).2
  have h2 := name_len (needL [32, 40] s b).1 (needL [32, 40] s b).2
  have h := namesR_alen ((nameL (needL [32, 40] s b).1 (needL [32, 40] s b).2).2.1.length + 1) s.length [(nameL (needL [32, 40] s b).1 (needL [32, 40] s b).2).1] (nameL (needL [32, 40] s b).1 (needL [32, 40] s b).2).2.1 (nameL (needL [32, 40] s b).1 (needL [32, 40] s b).2).2.2 (by omega) (fun x hx => by rw [List.mem_singleton.1 hx]; omega)
  refine ⟨h.1, Nat.le_trans h.2 ?_⟩
  simp only [List.length_cons, List.length_nil]; omega
section
variable {p : List Int} {q : Int} {nm : List (List Int)} (hnb : ∀ n ∈ nm, byte n) (hnl : ∀ n ∈ nm, n.length ≤ 1000000) (hpl : p.length ≤ 1000000) (hml : nm.length ≤ 1000000)
include hnb hnl hpl hml
theorem last_ok {s : List Int} (b cut : Bool) (fr mn : Int) : Ev (fun k => sec_last k p q (strs nm) (strOfNums s) b cut fr mn) (outL (finL p q nm s b cut fr mn)) := by
  unfold sec_last finL
  cases b with
  | true => exact yes rfl (fin rfl)
  | false =>
    refine no (by decide) ?_
    rw [if_neg (by decide)]
    by_cases h : s = []
    · subst h
      refine no (fun e => e ((str_toList_nil _).2 rfl)) (bnd (check_ok ⟨p, q, nm, cut, fr, mn⟩ hnb hnl hpl hml) ?_)
      rw [if_pos rfl, outL]
      by_cases hm : may ⟨p, q, nm, cut, fr, mn⟩ = true
      · simp only [if_pos hm]
        exact yes trivial (fin rfl)
      · simp only [if_neg hm]
        exact no (by decide) (fin rfl)
    · refine yes (fun e => h ((str_toList_nil _).1 e)) (fin ?_)
      rw [if_neg h, outL]
theorem cutL_ok {s : List Int} (hb : byte s) (hl : s.length ≤ 1000000) (b : Bool) : Ev (fun k => sec_cut k p q (strs nm) (strOfNums s) b) (outL (cutL p q nm s b)) := by
  unfold sec_cut cutL
  have one : ∀ c : Int, 0 ≤ c → c ≤ 255 → byte [c] := fun c h0 h1 => byte_one h0 h1
  have n1 := need_ok hb hl [93] (one 93 (by omega) (by omega)) (by decide) b
  rw [show strOfNums [93] = (⟨#[93]⟩ : ByteArray) from rfl] at n1
  simp only [n1, Option.bind_some]
  have b1 := need_byte (t := [93]) hb b
  have l1 := need_len [93] s b
  have i1 := is_ok b1 (by omega) [60] (one 60 (by omega) (by omega)) (by decide) (needL [93] s b).2
  rw [show strOfNums [60] = (⟨#[60]⟩ : ByteArray) from rfl] at i1
  simp only [i1, Option.bind_some]
  cases hc : cutp [60] (needL [93] s b).1 with
  | none =>
    simp only
    exact no (by decide) (last_ok hnb hnl hpl hml _ _ _ _)
  | some r =>
    simp only
    have br := cutp_byte b1 hc
    have lr := cutp_len hc
    refine yes trivial (bnd (num_ok br (by omega) _) ?_)
    have b2 : byte (numbL r (needL [93] s b).2).2.1 := dw_byte br _
    have l2 : (numbL r (needL [93] s b).2).2.1.length ≤ r.length := dw_len _ _
    have n2 := need_ok b2 (by omega) [46] (one 46 (by omega) (by omega)) (by decide) (numbL r (needL [93] s b).2).2.2
    rw [show strOfNums [46] = (⟨#[46]⟩ : ByteArray) from rfl] at n2
    simp only [n2, Option.bind_some]
    have b3 := need_byte (t := [46]) b2 (numbL r (needL [93] s b).2).2.2
    have l3 := need_len [46] (numbL r (needL [93] s b).2).2.1 (numbL r (needL [93] s b).2).2.2
    refine bnd (num_ok b3 (by omega) _) ?_
    generalize needL [46] (numbL r (needL [93] s b).2).2.1 (numbL r (needL [93] s b).2).2.2 = d at b3 l3 ⊢
    have b4 : byte (numbL d.1 d.2).2.1 := dw_byte b3 _
    have l4 : (numbL d.1 d.2).2.1.length ≤ d.1.length := dw_len _ _
    have n3 := need_ok b4 (by omega) [62] (one 62 (by omega) (by omega)) (by decide) (numbL d.1 d.2).2.2
    rw [show strOfNums [62] = (⟨#[62]⟩ : ByteArray) from rfl] at n3
    simp only [n3, Option.bind_some]
    exact last_ok hnb hnl hpl hml _ _ _ _
end
theorem parse_ok {t : List Int} (hb : byte t) (hl : t.length ≤ 90000) : Ev (fun k => section_Parse.f k (strOfNums t)) (outL (parseL t)) := by
  unfold section_Parse.f parseL
  have n1 := need_ok hb (by omega) [91] (byte_one (by omega) (by omega)) (by decide) false
  rw [show strOfNums [91] = (⟨#[91]⟩ : ByteArray) from rfl] at n1
  simp only [n1, Option.bind_some]
  have b1 := need_byte (t := [91]) hb false
  have l1 := need_len [91] t false
  generalize needL [91] t false = a at b1 l1 ⊢
  refine bnd (what_ok (a.1.length + 1) 0 a.1 a.2 [] b1 (by omega) (by omega) (by simp; omega)) ?_
  have w1 := what_byte (a.1.length + 1) a.1 a.2 [] b1
  have w2 := what_plen (a.1.length + 1) a.1 a.2 []
  generalize whatL (a.1.length + 1) a.1 a.2 [] = u at w1 w2 ⊢
  simp only [List.length_nil, Nat.zero_add] at w2
  have w3 := w1.2
  by_cases h : listed u.2.1 = true ∧ u.2.2.2 = false
  · rw [if_pos h]
    refine yes ⟨by have := h.1; unfold listed at this; simpa using this, h.2⟩ (bnd (names_ok w1.1 (by omega) _) ?_)
    have m1 := names_byte w1.1 u.2.2.2
    have m2 := names_alen u.2.2.1 u.2.2.2
    have m3 := m1.2.2
    have m4 := m2.2
    exact cutL_ok (p := u.1) (q := u.2.1) (nm := (namesL u.2.2.1 u.2.2.2).1) (s := (namesL u.2.2.1 u.2.2.2).2.1) m1.1 (fun n hn => by have := m2.1 n hn; omega) (by omega) (by omega) m1.2.1 (by omega) _
  · rw [if_neg h]
    refine no (fun e => h ⟨by unfold listed; simpa using e.1, e.2⟩) ?_
    exact cutL_ok (p := u.1) (q := u.2.1) (s := u.2.2.1) (nm := []) (fun n hn => by cases hn) (fun n hn => by cases hn) (by omega) (by simp) w1.1 (by omega) _
end Go.Proofs.YtbjbagocnnffaaaDoor.Sec

/- What a spec's text is, said of lists of bytes alone; the program's reader takes just these. -/
set_option linter.unusedVariables false
set_option linter.unusedSimpArgs false
set_option linter.unusedSectionVars false
namespace Go.Proofs.YtbjbagocnnffaaaDoor.Sec
open Go.RowKit Go.Proofs.YtbjbagocnnffaaaDoor.P Go.Proofs.YtbjbagocnnffaaaDoorW.PrintWords Go.Proofs.YtbjbagocnnffaaaDoorW.PrintLast Go.Proofs.YtbjbagocnnffaaaDoor.Aids Go.Proofs.YtbjbagocnnffaaaDoor.Chars
/-! numbers, letters -/
theorem numL_dig : ∀ (l : List Int) (n m : Int), numL l n = some m → ∀ c ∈ l, dig c = true
  | [], _, _, _ => fun c hc => by cases hc
  | x :: t, n, m, h => by
    rw [numL] at h
    by_cases h1 : x < 48
    · rw [if_pos h1] at h; cases h
    · rw [if_neg h1] at h
      by_cases h2 : x > 57
      · rw [if_pos h2] at h; cases h
      · rw [if_neg h2] at h
        intro c hc
        rcases List.mem_cons.1 hc with rfl | hc
        · unfold dig; rw [decide_eq_true (show 48 ≤ c by omega), decide_eq_true (show c ≤ 57 by omega)]; rfl
        · exact numL_dig t _ m h c hc
theorem number_dig {l : List Int} (h : (number l).2 = true) : ∀ c ∈ l, dig c = true := by
  unfold number at h
  split at h
  · cases h
  · cases hn : numL l 0 with
    | none => rw [hn] at h; cases h
    | some m => exact numL_dig l 0 m hn
theorem number_some {l : List Int} (h : (number l).2 = true) : l ≠ [] := by
  intro e; subst e; cases h
theorem dig_let {c : Int} (h : dig c = true) : let_ c = false := by
  unfold dig at h; unfold let_ low
  simp only [Bool.and_eq_true, decide_eq_true_eq] at h
  rw [if_neg (by omega), decide_eq_false (show ¬ 97 ≤ c by omega), decide_eq_false (show ¬ c = 46 by omega)]; rfl
theorem dig_46 : dig 46 = false := by decide
theorem word_lets : ∀ x : Fin 6, ∀ c ∈ lows (wordL x.val), (97 ≤ c ∧ c ≤ 122) ∨ c = 46 := by decide
theorem find_is {w : List Int} {x : Nat} (h : findL w = some x) : x < 6 ∧ 1 ≤ x ∧ lows (wordL x) = lows w := by
  unfold findL at h
  split at h
  · obtain rfl := Option.some.inj h; exact ⟨by decide, by decide, by assumption⟩
  · split at h
    · obtain rfl := Option.some.inj h; exact ⟨by decide, by decide, by assumption⟩
    · split at h
      · obtain rfl := Option.some.inj h; exact ⟨by decide, by decide, by assumption⟩
      · split at h
        · obtain rfl := Option.some.inj h; exact ⟨by decide, by decide, by assumption⟩
        · split at h
          · obtain rfl := Option.some.inj h; exact ⟨by decide, by decide, by assumption⟩
          · cases h
theorem find_let {w : List Int} {x : Nat} (h : findL w = some x) : ∀ c ∈ w, let_ c = true := by
  intro c hc
  obtain ⟨h6, _, he⟩ := find_is h
  have h1 : low c ∈ lows (wordL x) := by rw [he]; exact List.mem_map_of_mem hc
  have h2 := word_lets ⟨x, h6⟩ (low c) h1
  unfold let_
  rcases h2 with h2 | h2
  · rw [decide_eq_true h2.1, decide_eq_true h2.2]; rfl
  · have : c = 46 := by unfold low at h2; split at h2 <;> omega
    rw [this]; decide
/-! what stands ahead of the first byte of a kind, and behind it -/
def headL (z : Int) : List Int → List Int × List Int × Bool
  | [] => ([], [], false)
  | c :: t => if c = z then ([], t, true) else (c :: (headL z t).1, (headL z t).2.1, (headL z t).2.2)
theorem headL_yes {z : Int} {a r : List Int} (ha : ∀ c ∈ a, c ≠ z) : headL z (a ++ z :: r) = (a, r, true) := by
  induction a with
  | nil => rw [List.nil_append, headL, if_pos rfl]
  | cons c a ih => rw [List.cons_append, headL, if_neg (ha c (List.mem_cons_self ..)), ih (fun x hx => ha x (List.mem_cons_of_mem _ hx))]
theorem headL_no {z : Int} {a : List Int} (ha : ∀ c ∈ a, c ≠ z) : headL z a = (a, [], false) := by
  induction a with
  | nil => rfl
  | cons c a ih => rw [headL, if_neg (ha c (List.mem_cons_self ..)), ih (fun x hx => ha x (List.mem_cons_of_mem _ hx))]
theorem headL_is (z : Int) (s : List Int) : (∀ c ∈ (headL z s).1, c ≠ z) ∧ ((headL z s).2.2 = true → s = (headL z s).1 ++ z :: (headL z s).2.1) ∧ ((headL z s).2.2 = false → s = (headL z s).1 ∧ (headL z s).2.1 = []) := by
  induction s with
  | nil => exact ⟨fun c hc => absurd (show c ∈ ([] : List Int) from hc) List.not_mem_nil, (fun h => by cases h), fun _ => ⟨rfl, rfl⟩⟩
  | cons c t ih =>
    rw [headL]
    by_cases h : c = z
    · rw [if_pos h]
      exact ⟨fun c hc => absurd (show c ∈ ([] : List Int) from hc) List.not_mem_nil, (fun _ => by rw [h]; rfl), (fun h => by cases h)⟩
    · rw [if_neg h]
      refine ⟨fun x hx => ?_, fun hx => ?_, fun hx => ?_⟩
      · rcases List.mem_cons.1 hx with rfl | hx
        · exact h
        · exact ih.1 x hx
      · have := ih.2.1 hx
        simp only [List.cons_append]; rw [← this]
      · have := ih.2.2 hx
        exact ⟨by simp only; rw [← this.1], this.2⟩
/-! the path, and what is asked for -/
def rwhatL : Nat → List Int → List Int → Option (List Int × Int)
  | 0, _, _ => none
  | d + 1, s, p => if headD s = true then
      (if (number (headL 46 s).1).2 = true ∧ ((headL 46 s).2.2 = false ∨ (headL 46 s).2.1 ≠ []) then
        (if (headL 46 s).2.2 = true then rwhatL d (headL 46 s).2.1 (p ++ [(number (headL 46 s).1).1]) else some (p ++ [(number (headL 46 s).1).1], 0))
      else none)
    else if s = [] then some (p, 0) else (findL s).map fun (x : Nat) => (p, (x : Int))
def wch (c : Int) : Bool := dig c || let_ c
theorem headD_cons {a r : List Int} (h : headD a = true) : headD (a ++ r) = true := by
  cases a with
  | nil => cases h
  | cons c t => exact h
theorem headD_of {a : List Int} (h : ∀ c ∈ a, dig c = true) (hn : a ≠ []) : headD a = true := by
  cases a with
  | nil => exact absurd rfl hn
  | cons c t => exact h c (List.mem_cons_self ..)
theorem what_bad (d : Nat) : ∀ (s p : List Int), (whatL d s true p).2.2.2 = true := by
  intro s p
  cases d with
  | zero => rfl
  | succ d =>
    rw [whatL, if_neg (by simp)]
    unfold tailL
    split
    · simp only; split <;> rfl
    · split <;> rfl
theorem what_to (d : Nat) : ∀ (s p p' r : List Int) (q : Int), whatL d s false p = (p', q, r, false) →
    ∃ W, s = W ++ r ∧ (∀ e, W.length < e → rwhatL e W p = some (p', q)) ∧ (p ≠ [] → W ≠ []) := by
  induction d with
  | zero => intro s p p' r q h; simp [whatL] at h
  | succ d ih =>
    intro s p p' r q h
    rw [whatL] at h
    by_cases hd : headD s = true
    · rw [if_pos ⟨hd, rfl⟩] at h
      have hs : s = s.takeWhile dig ++ s.dropWhile dig := (List.takeWhile_append_dropWhile ..).symm
      have hne : s.takeWhile dig ≠ [] := by
        cases s with
        | nil => cases hd
        | cons c t => rw [List.takeWhile_cons, show dig c = true from hd, if_pos rfl]; exact List.cons_ne_nil _ _
      have hall := tw_all dig s
      have h46 : ∀ c ∈ s.takeWhile dig, c ≠ 46 := fun c hc e => by have := hall c hc; rw [e, dig_46] at this; cases this
      cases hc : cutp [46] (numbL s false).2.1 with
      | some r1 =>
        rw [hc] at h
        simp only at h
        by_cases hn : (number (s.takeWhile dig)).2 = true
        · have hb : (numbL s false).2.2 = false := by unfold numbL; simp only; rw [if_pos hn]
          rw [hb] at h
          obtain ⟨W, e1, e2, e3⟩ := ih _ _ _ _ _ h
          have e3 := e3 (by simp)
          have hr1 : s.dropWhile dig = 46 :: r1 := cutp_some _ _ _ hc
          refine ⟨s.takeWhile dig ++ 46 :: W, ?_, ?_, fun _ => by simp⟩
          · conv => lhs; rw [hs, hr1, e1]
            simp
          · intro e he
            obtain ⟨e, rfl⟩ : ∃ m, e = m + 1 := ⟨e - 1, by omega⟩
            rw [rwhatL, if_pos (headD_cons (headD_of hall hne)), headL_yes h46]
            simp only
            rw [if_pos ⟨hn, .inr e3⟩, if_pos trivial]
            exact e2 e (by simp at he; omega)
        · have hb : (numbL s false).2.2 = true := by unfold numbL; simp only; rw [if_neg hn]
          rw [hb] at h
          have := what_bad d r1 (p ++ [(numbL s false).1])
          rw [h] at this; cases this
      | none =>
        rw [hc] at h
        simp only [Prod.mk.injEq] at h
        obtain ⟨rfl, rfl, rfl, hb⟩ := h
        have hn : (number (s.takeWhile dig)).2 = true := by
          unfold numbL at hb; simp only at hb
          by_cases hn : (number (s.takeWhile dig)).2 = true
          · exact hn
          · rw [if_neg hn] at hb; cases hb
        refine ⟨s.takeWhile dig, hs, ?_, fun _ => hne⟩
        intro e he
        obtain ⟨e, rfl⟩ : ∃ m, e = m + 1 := ⟨e - 1, by omega⟩
        rw [rwhatL, if_pos (headD_of hall hne), headL_no h46]
        simp only
        rw [if_pos ⟨hn, .inl trivial⟩, if_neg (by decide)]
        rfl
    · rw [if_neg (fun e => hd e.1)] at h
      unfold tailL at h
      have hs : s = s.takeWhile let_ ++ s.dropWhile let_ := (List.takeWhile_append_dropWhile ..).symm
      by_cases hw : s.takeWhile let_ = []
      · rw [if_pos hw] at h
        simp only [Prod.mk.injEq] at h
        obtain ⟨rfl, rfl, rfl, hb⟩ := h
        have hp : p = [] := by
          cases p with
          | nil => rfl
          | cons x t => simp at hb
        refine ⟨[], by rw [hw] at hs; exact hs, ?_, fun hne => absurd hp hne⟩
        intro e he
        obtain ⟨e, rfl⟩ : ∃ m, e = m + 1 := ⟨e - 1, by omega⟩
        rw [rwhatL, if_neg (by decide), if_pos rfl]
      · rw [if_neg hw] at h
        cases hf : findL (s.takeWhile let_) with
        | none => rw [hf] at h; simp at h
        | some x =>
          rw [hf] at h
          simp only [Prod.mk.injEq] at h
          obtain ⟨rfl, rfl, rfl, _⟩ := h
          refine ⟨s.takeWhile let_, hs, ?_, fun _ => hw⟩
          intro e he
          obtain ⟨e, rfl⟩ : ∃ m, e = m + 1 := ⟨e - 1, by omega⟩
          have hd2 : ¬ headD (s.takeWhile let_) = true := fun h2 => by
            have h3 := headD_cons (r := s.dropWhile let_) h2
            rw [← hs] at h3; exact hd h3
          rw [rwhatL, if_neg hd2, if_neg hw, hf]
          rfl
theorem what_of (e : Nat) : ∀ (W p p' r : List Int) (q : Int), rwhatL e W p = some (p', q) → stops wch r → (W = [] → p = []) → ∀ d, W.length < d → whatL d (W ++ r) false p = (p', q, r, false) := by
  induction e with
  | zero => intro W p p' r q h; simp [rwhatL] at h
  | succ e ih =>
    intro W p p' r q h hr hp d hd
    obtain ⟨d, rfl⟩ : ∃ m, d = m + 1 := ⟨d - 1, by omega⟩
    have hrd : stops dig r := fun c t ht => by have := hr c t ht; unfold wch at this; simp at this; exact this.1
    have hrl : stops let_ r := fun c t ht => by have := hr c t ht; unfold wch at this; simp at this; exact this.2
    rw [rwhatL] at h
    rw [whatL]
    by_cases hW : headD W = true
    · rw [if_pos hW] at h
      rw [if_pos ⟨headD_cons hW, rfl⟩]
      obtain ⟨i1, i2, i3⟩ := headL_is 46 W
      by_cases hn : (number (headL 46 W).1).2 = true ∧ ((headL 46 W).2.2 = false ∨ (headL 46 W).2.1 ≠ [])
      · rw [if_pos hn] at h
        have hall := number_dig hn.1
        cases hm : (headL 46 W).2.2 with
        | true =>
          rw [hm, if_pos rfl] at h
          have e1 := i2 hm
          have hs2 : stops dig (46 :: ((headL 46 W).2.1 ++ r)) := fun c t ht => by injection ht with h1; rw [← h1]; exact dig_46
          have tw := tw_app hall hs2
          have ew : W ++ r = (headL 46 W).1 ++ 46 :: ((headL 46 W).2.1 ++ r) := by
            have h9 := congrArg (· ++ r) e1
            simpa using h9
          have n1 : numbL (W ++ r) false = ((number (headL 46 W).1).1, 46 :: ((headL 46 W).2.1 ++ r), false) := by
            unfold numbL; rw [ew, tw.1, tw.2, if_pos hn.1]
          rw [n1]
          simp only [cutp, if_true]
          have hl : (headL 46 W).2.1.length < d := by have := congrArg List.length e1; rw [List.length_append] at this; simp at this; omega
          exact ih _ _ _ _ _ h hr (fun e => hn.2.elim (fun h2 => by rw [hm] at h2; cases h2) (fun h2 => absurd e h2)) d hl
        | false =>
          rw [hm, if_neg (by decide)] at h
          simp only [Option.some.injEq, Prod.mk.injEq] at h
          obtain ⟨rfl, rfl⟩ := h
          have e1 := (i3 hm).1
          rw [← e1] at hall hn ⊢
          have tw := tw_app hall hrd
          have n1 : numbL (W ++ r) false = ((number W).1, r, false) := by
            unfold numbL; rw [tw.1, tw.2, if_pos hn.1]
          rw [n1]
          have hc : cutp [46] r = none := by
            cases r with
            | nil => rfl
            | cons c t =>
              have := hr c t rfl
              rw [cutp, if_neg (fun e => by rw [← e] at this; exact absurd this (by decide))]
          simp only [hc]
      · rw [if_neg hn] at h; cases h
    · rw [if_neg hW] at h
      by_cases he : W = []
      · rw [if_pos he] at h
        simp only [Option.some.injEq, Prod.mk.injEq] at h
        obtain ⟨rfl, rfl⟩ := h
        have hp0 := hp he
        subst he
        subst hp0
        rw [List.nil_append, if_neg (fun e => by
          cases r with
          | nil => cases e.1
          | cons c t => have h1 := hrd c t rfl; have h2 : dig c = true := e.1; rw [h1] at h2; cases h2)]
        unfold tailL
        have tw := tw_app (a := []) (fun c hc => by cases hc) hrl
        rw [List.nil_append] at tw
        rw [tw.1, tw.2, if_pos rfl]
        rfl
      · rw [if_neg he] at h
        cases hf : findL W with
        | none => rw [hf] at h; cases h
        | some x =>
          rw [hf] at h
          have h := Option.some.inj (show some (p, (x : Int)) = some (p', q) from h)
          simp only [Prod.mk.injEq] at h
          obtain ⟨rfl, rfl⟩ := h
          have hnd : ¬ headD (W ++ r) = true := by
            cases W with
            | nil => exact absurd rfl he
            | cons c t => exact hW
          rw [if_neg (fun e => hnd e.1)]
          unfold tailL
          have tw := tw_app (find_let hf) hrl
          rw [tw.1, tw.2, if_neg he, hf]
theorem what_wch (e : Nat) : ∀ (W p : List Int) (o : List Int × Int), rwhatL e W p = some o → ∀ c ∈ W, wch c = true := by
  induction e with
  | zero => intro W p o h; simp [rwhatL] at h
  | succ e ih =>
    intro W p o h c hc
    rw [rwhatL] at h
    by_cases hW : headD W = true
    · rw [if_pos hW] at h
      obtain ⟨i1, i2, i3⟩ := headL_is 46 W
      by_cases hn : (number (headL 46 W).1).2 = true ∧ ((headL 46 W).2.2 = false ∨ (headL 46 W).2.1 ≠ [])
      · rw [if_pos hn] at h
        have hall := number_dig hn.1
        cases hm : (headL 46 W).2.2 with
        | true =>
          rw [hm, if_pos rfl] at h
          rw [i2 hm] at hc
          rcases List.mem_append.1 hc with hc | hc
          · unfold wch; rw [hall c hc]; rfl
          · rcases List.mem_cons.1 hc with rfl | hc
            · decide
            · exact ih _ _ _ h c hc
        | false =>
          rw [(i3 hm).1] at hc
          unfold wch; rw [hall c hc]; rfl
      · rw [if_neg hn] at h; cases h
    · rw [if_neg hW] at h
      by_cases he : W = []
      · rw [he] at hc; cases hc
      · rw [if_neg he] at h
        cases hf : findL W with
        | none => rw [hf] at h; cases h
        | some x => unfold wch; rw [find_let hf c hc, Bool.or_true]
end Go.Proofs.YtbjbagocnnffaaaDoor.Sec

/- What a spec's text is (2): names, the cut, the whole; the program's reader takes just these. -/
set_option linter.unusedVariables false
set_option linter.unusedSimpArgs false
set_option linter.unusedSectionVars false
namespace Go.Proofs.YtbjbagocnnffaaaDoor.Sec
open Go.RowKit Go.Proofs.YtbjbagocnnffaaaDoor.P Go.Proofs.YtbjbagocnnffaaaDoorW.PrintWords Go.Proofs.YtbjbagocnnffaaaDoorW.PrintLast Go.Proofs.YtbjbagocnnffaaaDoor.Aids Go.Proofs.YtbjbagocnnffaaaDoor.Chars
def esc : List Int → List Int
  | [] => []
  | c :: t => if c = 34 ∨ c = 92 then 92 :: c :: esc t else c :: esc t
/-- a name's text -/
def NT (w T : List Int) : Prop := (T = w ∧ w ≠ [] ∧ ∀ c ∈ w, atm c = true) ∨ T = 34 :: (esc w ++ [34])
inductive NLt : List (List Int) → List Int → Prop
  | nil : NLt [] []
  | more {w T L : List Int} {ws : List (List Int)} : NT w T → NLt ws L → NLt (w :: ws) (32 :: (T ++ L))
def NL (ws : List (List Int)) (L : List Int) : Prop := ∃ (w T : List Int) (ws' : List (List Int)) (L' : List Int), ws = w :: ws' ∧ L = T ++ L' ∧ NT w T ∧ NLt ws' L'
theorem qscan_to : ∀ (d : Nat) (t acc w r : List Int), qscan d t acc = some (w, r) → ∃ u, w = acc ++ u ∧ t = esc u ++ 34 :: r
  | 0, _, _, _, _, h => by simp [qscan] at h
  | d + 1, [], _, _, _, h => by simp [qscan] at h
  | d + 1, c :: t, acc, w, r, h => by
    rw [qscan_cons] at h
    by_cases h1 : c = 34
    · rw [if_pos h1] at h
      simp only [Option.some.injEq, Prod.mk.injEq] at h
      exact ⟨[], by rw [h.1, List.append_nil], by rw [h1, h.2]; rfl⟩
    · rw [if_neg h1] at h
      by_cases h2 : c = 92
      · rw [if_pos h2] at h
        cases t with
        | nil => cases h
        | cons x u =>
          simp only at h
          by_cases h3 : x = 34 ∨ x = 92
          · rw [if_pos h3] at h
            obtain ⟨v, e1, e2⟩ := qscan_to d u _ w r h
            exact ⟨x :: v, by rw [e1]; simp, by rw [esc, if_pos h3, e2, h2]; rfl⟩
          · rw [if_neg h3] at h; cases h
      · rw [if_neg h2] at h
        obtain ⟨v, e1, e2⟩ := qscan_to d t _ w r h
        exact ⟨c :: v, by rw [e1]; simp, by rw [esc, if_neg (fun e => e.elim h1 h2), e2]; rfl⟩
theorem qscan_of : ∀ (u r acc : List Int) (d : Nat), (esc u ++ 34 :: r).length < d → qscan d (esc u ++ 34 :: r) acc = some (acc ++ u, r)
  | [], r, acc, d, hd => by
    obtain ⟨d, rfl⟩ : ∃ m, d = m + 1 := ⟨d - 1, by omega⟩
    rw [show esc [] ++ 34 :: r = 34 :: r from rfl, qscan_cons, if_pos rfl, List.append_nil]
  | c :: u, r, acc, d, hd => by
    obtain ⟨d, rfl⟩ : ∃ m, d = m + 1 := ⟨d - 1, by omega⟩
    rw [esc] at hd ⊢
    by_cases h : c = 34 ∨ c = 92
    · rw [if_pos h] at hd ⊢
      rw [List.cons_append, List.cons_append, qscan_cons, if_neg (by decide), if_pos rfl]
      simp only
      rw [if_pos h, qscan_of u r _ d (by simp at hd ⊢; omega)]
      simp
    · rw [if_neg h] at hd ⊢
      rw [List.cons_append, qscan_cons, if_neg (fun e => h (.inl e)), if_neg (fun e => h (.inr e)), qscan_of u r _ d (by simp at hd ⊢; omega)]
      simp
theorem name_to {s w r : List Int} (h : nameL s false = (w, r, false)) : ∃ T, s = T ++ r ∧ NT w T := by
  unfold nameL at h
  cases hc : cutp [34] s with
  | some s' =>
    rw [hc] at h
    simp only at h
    cases hq : qscan (s'.length + 1) s' [] with
    | some o =>
      rw [hq] at h
      simp only [Prod.mk.injEq] at h
      obtain ⟨rfl, rfl, _⟩ := h
      obtain ⟨u, e1, e2⟩ := qscan_to _ _ _ _ _ hq
      rw [List.nil_append] at e1
      refine ⟨34 :: (esc o.1 ++ [34]), ?_, .inr rfl⟩
      rw [cutp_some _ _ _ hc, e2, e1]; simp
    | none => rw [hq] at h; simp at h
  | none =>
    rw [hc] at h
    simp only [Prod.mk.injEq] at h
    obtain ⟨rfl, rfl, hb⟩ := h
    refine ⟨s.takeWhile atm, (List.takeWhile_append_dropWhile ..).symm, .inl ⟨rfl, (fun e => by rw [if_pos e] at hb; cases hb), tw_all atm s⟩⟩
theorem name_of {w T r : List Int} (h : NT w T) (hr : stops atm r) : nameL (T ++ r) false = (w, r, false) := by
  unfold nameL
  rcases h with ⟨rfl, hn, ha⟩ | rfl
  · have hc : cutp [34] (T ++ r) = none := by
      cases T with
      | nil => exact absurd rfl hn
      | cons c t => rw [List.cons_append, cutp, if_neg (fun e => by have := ha c (List.mem_cons_self ..); rw [← e] at this; exact absurd this (by decide))]
    rw [hc]
    simp only
    have tw := tw_app ha hr
    rw [tw.1, tw.2, if_neg hn]
  · have hc : cutp [34] (34 :: (esc w ++ [34]) ++ r) = some (esc w ++ 34 :: r) := by
      rw [List.cons_append, cutp, if_pos rfl, cutp]; simp
    rw [hc]
    simp only
    rw [qscan_of w r [] _ (Nat.lt_succ_self _)]
    rfl
theorem namesR_bad (d : Nat) (l : List (List Int)) (s : List Int) : (namesR d l s true).2.2 = true := by
  cases d with
  | zero => rfl
  | succ d => rw [namesR, if_pos rfl]; exact need_bad _ _
theorem namesR_to (d : Nat) : ∀ (l l' : List (List Int)) (s r : List Int), namesR d l s false = (l', r, false) → ∃ ws L, l' = l ++ ws ∧ s = L ++ 41 :: r ∧ NLt ws L := by
  induction d with
  | zero => intro l l' s r h; simp [namesR] at h
  | succ d ih =>
    intro l l' s r h
    rw [namesR, if_neg (by decide)] at h
    cases hc : cutp [32] s with
    | some s1 =>
      rw [hc] at h
      simp only at h
      cases hb : (nameL s1 false).2.2 with
      | true =>
        rw [hb] at h
        have := namesR_bad d (l ++ [(nameL s1 false).1]) (nameL s1 false).2.1
        rw [h] at this; cases this
      | false =>
        rw [hb] at h
        obtain ⟨ws, L, e1, e2, e3⟩ := ih _ _ _ _ h
        obtain ⟨T, e4, e5⟩ := name_to (show nameL s1 false = ((nameL s1 false).1, (nameL s1 false).2.1, false) from Prod.ext rfl (Prod.ext rfl hb))
        refine ⟨(nameL s1 false).1 :: ws, 32 :: (T ++ L), by rw [e1]; simp, ?_, .more e5 e3⟩
        rw [cutp_some _ _ _ hc, e4, e2]; simp
    | none =>
      rw [hc] at h
      simp only [Prod.mk.injEq] at h
      obtain ⟨rfl, h2⟩ := h
      have := need_good h2
      exact ⟨[], [], by simp, by rw [this.1]; rfl, .nil⟩
theorem nlt_head {ws : List (List Int)} {L : List Int} (h : NLt ws L) (r : List Int) : stops atm (L ++ 41 :: r) := by
  cases h with
  | nil => intro c t e; injection e with e1 e2; rw [← e1]; decide
  | more h1 h2 => intro c t e; injection e with e1 e2; rw [← e1]; decide
theorem namesR_of {ws : List (List Int)} {L : List Int} (h : NLt ws L) : ∀ (d : Nat) (l : List (List Int)) (r : List Int), (L ++ 41 :: r).length < d → namesR d l (L ++ 41 :: r) false = (l ++ ws, r, false) := by
  induction h with
  | nil =>
    intro d l r hd
    obtain ⟨d, rfl⟩ : ∃ m, d = m + 1 := ⟨d - 1, by omega⟩
    rw [List.nil_append, namesR, if_neg (by decide), show cutp [32] (41 :: r) = none from rfl]
    simp only
    have := need_is [41] r false
    rw [show [41] ++ r = 41 :: r from rfl] at this
    rw [this, List.append_nil]
  | more h1 h2 ih =>
    rename_i w T L ws
    intro d l r hd
    obtain ⟨d, rfl⟩ : ∃ m, d = m + 1 := ⟨d - 1, by omega⟩
    have e : 32 :: (T ++ L) ++ 41 :: r = 32 :: (T ++ (L ++ 41 :: r)) := by simp
    rw [e] at hd ⊢
    rw [namesR, if_neg (by decide), show cutp [32] (32 :: (T ++ (L ++ 41 :: r))) = some (T ++ (L ++ 41 :: r)) from rfl]
    simp only
    rw [name_of h1 (nlt_head h2 r)]
    simp only
    rw [ih d _ r (by simp at hd ⊢; omega)]
    simp
theorem names_to {s r : List Int} {nm : List (List Int)} (h : namesL s false = (nm, r, false)) : ∃ L, s = [32, 40] ++ L ++ 41 :: r ∧ NL nm L := by
  unfold namesL at h
  simp only at h
  cases hn : (needL [32, 40] s false) with
  | mk s1 b1 =>
    rw [hn] at h
    simp only at h
    cases hm : nameL s1 b1 with
    | mk w o =>
      obtain ⟨s2, b2⟩ := o
      rw [hm] at h
      simp only at h
      cases b2 with
      | true => have := namesR_bad (s2.length + 1) [w] s2; rw [h] at this; cases this
      | false =>
        cases b1 with
        | true => have := name_bad s1; rw [hm] at this; cases this
        | false =>
          obtain ⟨ws, L, e1, e2, e3⟩ := namesR_to _ _ _ _ _ h
          obtain ⟨T, e4, e5⟩ := name_to hm
          refine ⟨T ++ L, ?_, w, T, ws, L, e1, rfl, e5, e3⟩
          rw [(need_good hn).1, e4, e2]; simp
theorem names_of {L : List Int} {nm : List (List Int)} (h : NL nm L) (r : List Int) : namesL ([32, 40] ++ L ++ 41 :: r) false = (nm, r, false) := by
  obtain ⟨w, T, ws, L', rfl, rfl, h1, h2⟩ := h
  unfold namesL
  have e : [32, 40] ++ (T ++ L') ++ 41 :: r = [32, 40] ++ (T ++ (L' ++ 41 :: r)) := by simp
  rw [e, need_is]
  simp only
  rw [name_of h1 (nlt_head h2 r)]
  simp only
  rw [namesR_of h2 _ _ r (Nat.lt_succ_self _)]
  rfl
/-! how many bytes -/
def CP (x : Sp) (C : List Int) : Prop := (C = [] ∧ x.cut = false ∧ x.fr = 0 ∧ x.mn = 0) ∨ (∃ a b, C = 60 :: (a ++ 46 :: (b ++ [62])) ∧ number a = (x.fr, true) ∧ number b = (x.mn, true) ∧ x.cut = true)
def NP (x : Sp) (N : List Int) : Prop := (listed x.q = true ∧ ∃ L, N = [32, 40] ++ L ++ [41] ∧ NL x.nm L) ∨ (listed x.q = false ∧ N = [] ∧ x.nm = [])
/-- a spec's text -/
def G (t : List Int) (x : Sp) : Prop := ∃ W N C, t = 91 :: (W ++ N ++ 93 :: C) ∧ (∀ e, W.length < e → rwhatL e W [] = some (x.p, x.q)) ∧ NP x N ∧ CP x C
theorem fin_to {p : List Int} {q : Int} {nm : List (List Int)} {s : List Int} {b cut : Bool} {fr mn : Int} {x : Sp} (h : finL p q nm s b cut fr mn = some x) : b = false ∧ s = [] ∧ x = ⟨p, q, nm, cut, fr, mn⟩ := by
  unfold finL at h
  cases b with
  | true => cases h
  | false =>
    rw [if_neg (by decide)] at h
    by_cases hs : s = []
    · rw [if_pos hs] at h; exact ⟨rfl, hs, (Option.some.inj h).symm⟩
    · rw [if_neg hs] at h; cases h
theorem numb_to {s r : List Int} {b : Bool} {n : Int} (h : numbL s b = (n, r, false)) : b = false ∧ s = s.takeWhile dig ++ r ∧ number (s.takeWhile dig) = (n, true) := by
  unfold numbL at h
  simp only [Prod.mk.injEq] at h
  obtain ⟨h1, h2, h3⟩ := h
  by_cases hn : (number (s.takeWhile dig)).2 = true
  · rw [if_pos hn] at h3
    refine ⟨h3, ?_, ?_⟩
    · rw [← h2]; exact (List.takeWhile_append_dropWhile ..).symm
    · rw [← h1, ← hn]
  · rw [if_neg hn] at h3; cases h3
theorem numb_of {a r : List Int} {n : Int} (h : number a = (n, true)) (hr : stops dig r) : numbL (a ++ r) false = (n, r, false) := by
  have hall := number_dig (show (number a).2 = true by rw [h])
  have tw := tw_app hall hr
  unfold numbL
  rw [tw.1, tw.2, h]
  rfl
theorem cut_to {p : List Int} {q : Int} {nm : List (List Int)} {s : List Int} {b : Bool} {x : Sp} (h : cutL p q nm s b = some x) : b = false ∧ x.p = p ∧ x.q = q ∧ x.nm = nm ∧ ∃ C, s = 93 :: C ∧ CP x C := by
  unfold cutL at h
  cases hn : needL [93] s b with
  | mk s1 b1 =>
    rw [hn] at h
    simp only at h
    cases hc : cutp [60] s1 with
    | none =>
      rw [hc] at h
      simp only at h
      obtain ⟨rfl, rfl, rfl⟩ := fin_to h
      have := need_good hn
      exact ⟨this.2, rfl, rfl, rfl, [], this.1, .inl ⟨rfl, rfl, rfl, rfl⟩⟩
    | some r =>
      rw [hc] at h
      simp only at h
      cases h1 : numbL r b1 with
      | mk n1 o1 =>
        obtain ⟨s2, b2⟩ := o1
        rw [h1] at h
        simp only at h
        cases h2 : needL [46] s2 b2 with
        | mk s3 b3 =>
          rw [h2] at h
          simp only at h
          cases h3 : numbL s3 b3 with
          | mk n2 o2 =>
            obtain ⟨s4, b4⟩ := o2
            rw [h3] at h
            simp only at h
            cases h4 : needL [62] s4 b4 with
            | mk s5 b5 =>
              rw [h4] at h
              obtain ⟨rfl, rfl, rfl⟩ := fin_to h
              obtain ⟨e4, rfl⟩ := need_good h4
              obtain ⟨rfl, e3, f3⟩ := numb_to h3
              obtain ⟨e2, rfl⟩ := need_good h2
              obtain ⟨rfl, e1, f1⟩ := numb_to h1
              obtain ⟨e0, rfl⟩ := need_good hn
              refine ⟨rfl, rfl, rfl, rfl, s1, e0, .inr ⟨_, _, ?_, f1, f3, rfl⟩⟩
              rw [cutp_some _ _ _ hc, e4] at *
              conv => lhs; rw [e1, e2, e3]
              simp
theorem cut_of {x : Sp} {C : List Int} (h : CP x C) : cutL x.p x.q x.nm (93 :: C) false = some x := by
  unfold cutL
  have hn := need_is [93] C false
  rw [show [93] ++ C = 93 :: C from rfl] at hn
  rw [hn]
  simp only
  rcases h with ⟨rfl, h1, h2, h3⟩ | ⟨a, b, rfl, h1, h2, h3⟩
  · rw [show cutp [60] [] = none from rfl]
    simp only
    unfold finL
    rw [if_neg (by decide), if_pos rfl, ← h1, ← h2]
    obtain ⟨p, q, nm, cut, fr, mn⟩ := x
    simp only at h2 h3 ⊢
    rw [h3, h2]
  · rw [show cutp [60] (60 :: (a ++ 46 :: (b ++ [62]))) = some (a ++ 46 :: (b ++ [62])) from rfl]
    simp only
    have s1 : stops dig (46 :: (b ++ [62])) := fun c t e => by injection e with e1; rw [← e1]; decide
    have s2 : stops dig [62] := fun c t e => by injection e with e1; rw [← e1]; decide
    rw [numb_of h1 s1]
    simp only
    have n2 := need_is [46] (b ++ [62]) false
    rw [show [46] ++ (b ++ [62]) = 46 :: (b ++ [62]) from rfl] at n2
    rw [n2]
    simp only
    rw [numb_of h2 s2]
    simp only
    rw [show needL [62] [62] false = ([], false) from rfl]
    unfold finL
    rw [if_neg (by decide), if_pos rfl, ← h3]
theorem prog_G (t : List Int) (x : Sp) : parseL t = some x ↔ G t x := by
  unfold parseL G
  simp only
  constructor
  · intro h
    cases hn : needL [91] t false with
    | mk s1 b1 =>
      rw [hn] at h
      simp only at h
      cases hw : whatL (s1.length + 1) s1 b1 [] with
      | mk p o =>
        obtain ⟨q, s2, b2⟩ := o
        rw [hw] at h
        simp only at h
        by_cases hl : listed q = true ∧ b2 = false
        · rw [if_pos hl] at h
          obtain ⟨hl, rfl⟩ := hl
          cases hm : namesL s2 false with
          | mk nm o2 =>
            obtain ⟨s3, b3⟩ := o2
            rw [hm] at h
            simp only at h
            obtain ⟨rfl, c1, c2, c3, C, rfl, hC⟩ := cut_to h
            obtain ⟨L, rfl, hL⟩ := names_to hm
            cases b1 with
            | true => have := what_bad (s1.length + 1) s1 []; rw [hw] at this; cases this
            | false =>
              obtain ⟨W, e1, e2, _⟩ := what_to _ _ _ _ _ _ hw
              refine ⟨W, [32, 40] ++ L ++ [41], C, ?_, by rw [c1, c2]; exact e2, .inl ⟨by rw [c2]; exact hl, L, rfl, by rw [c3]; exact hL⟩, hC⟩
              rw [(need_good hn).1, e1]; simp
        · rw [if_neg hl] at h
          obtain ⟨rfl, c1, c2, c3, C, rfl, hC⟩ := cut_to h
          cases b1 with
          | true => have := what_bad (s1.length + 1) s1 []; rw [hw] at this; cases this
          | false =>
            obtain ⟨W, e1, e2, _⟩ := what_to _ _ _ _ _ _ hw
            refine ⟨W, [], C, ?_, by rw [c1, c2]; exact e2, .inr ⟨by rw [c2]; cases hq : listed q with | true => exact absurd ⟨hq, rfl⟩ hl | false => rfl, rfl, c3⟩, hC⟩
            rw [(need_good hn).1, e1]; simp
  · rintro ⟨W, N, C, rfl, hW, hN, hC⟩
    have hn := need_is [91] (W ++ N ++ 93 :: C) false
    rw [show [91] ++ (W ++ N ++ 93 :: C) = 91 :: (W ++ N ++ 93 :: C) from rfl] at hn
    rw [hn]
    simp only
    have hr : stops wch (N ++ 93 :: C) := by
      rcases hN with ⟨_, L, rfl, _⟩ | ⟨_, rfl, _⟩ <;> (intro c t e; injection e with e1 e2; rw [← e1]; decide)
    have hw := what_of (W.length + 1) W [] x.p (N ++ 93 :: C) x.q (hW _ (Nat.lt_succ_self _)) hr (fun _ => rfl) ((W ++ N ++ 93 :: C).length + 1) (by simp; omega)
    rw [← List.append_assoc] at hw
    rw [hw]
    simp only
    rcases hN with ⟨hl, L, rfl, hL⟩ | ⟨hl, rfl, hnm⟩
    · rw [if_pos ⟨hl, trivial⟩]
      have e : [32, 40] ++ L ++ [41] ++ 93 :: C = [32, 40] ++ L ++ 41 :: (93 :: C) := by simp
      rw [e, names_of hL]
      exact cut_of hC
    · rw [if_neg (fun e => by rw [hl] at e; cases e.1), ← hnm]
      exact cut_of hC
end Go.Proofs.YtbjbagocnnffaaaDoor.Sec
