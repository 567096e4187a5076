/- What the program's readers of bytes tell, said of lists. -/
import Derived.Test.YtcjepgofcojeoaaEvs
import Derived.Test.YtcjepgofcojeoaaPx3
set_option linter.unusedVariables false
set_option linter.unusedSimpArgs false
set_option linter.unusedSectionVars false
namespace Go.Proofs.Ytcjepgofcojeoaa.Ad
open Go.RowKit Go.Proofs.Ytcjepgofcojeoaa.P Go.Proofs.YtcjepgofcojeoaaW.PrintWords Go.Proofs.YtcjepgofcojeoaaW.PrintLast Go.Proofs.Ytcjepgofcojeoaa.Aids
theorem of_bytes {p : Int → Prop} (all : ∀ y : Fin 256, p (y.val : Int)) {c : Int} (h : 0 ≤ c ∧ c ≤ 255) : p c := by
  have := all ⟨c.toNat, by omega⟩
  rwa [show ((⟨c.toNat, by omega⟩ : Fin 256).val : Int) = c from Int.toNat_of_nonneg h.1] at this
theorem wr1 {i : Nat} (h : i ≤ 10000000) : wrap64 ((i : Int) + 1) = ((i + 1 : Nat) : Int) := by rw [w64 (by omega) (by omega)]; omega
def ix (c : Int) : List Int → Nat
  | [] => 0
  | x :: t => if x = c then 0 else ix c t + 1
theorem ix_le (c : Int) : ∀ l, ix c l ≤ l.length
  | [] => Nat.le_refl _
  | x :: t => by
    have := ix_le c t
    unfold ix; split <;> simp; omega
theorem index_ix (c : Int) (hc : 0 ≤ c ∧ c ≤ 255) : ∀ p : List Int, byte p → Lib.indexByte (p.map fun n => UInt8.ofNat n.toNat) c.toNat.toUInt8 = if ix c p < p.length then (ix c p : Int) else -1
  | [], _ => rfl
  | x :: t, hb => by
    have hx := hb x List.mem_cons_self
    have ih := index_ix c hc t (fun x hx => hb x (List.mem_cons_of_mem _ hx))
    rw [List.map_cons, Lib.indexByte, ih]
    by_cases e : x = c
    · subst e
      have e3 : (UInt8.ofNat x.toNat == x.toNat.toUInt8) = true := by simp
      have e4 : ix x (x :: t) = 0 := if_pos rfl
      rw [e3, e4]; simp
    · have e2 : ix c (x :: t) = ix c t + 1 := if_neg e
      have e3 : (UInt8.ofNat x.toNat == c.toNat.toUInt8) = false := by
        rw [beq_eq_false_iff_ne]
        intro h
        have := congrArg UInt8.toNat h
        simp at this
        omega
      rw [e3, e2]
      simp only [List.length_cons, Bool.false_eq_true, if_false, Nat.add_lt_add_iff_right]
      by_cases h : ix c t < t.length
      · rw [if_pos h, if_pos h, if_neg (by simp; try omega)]; try omega
      · rw [if_neg h, if_neg h]; rfl
theorem indexed (c : Int) (hc : 0 ≤ c ∧ c ≤ 255) (p : List Int) (hb : byte p) : strings_IndexByte.f (strOfNums p) c = some (if ix c p < p.length then (ix c p : Int) else -1) := by
  unfold strings_IndexByte.f
  rw [show (strOfNums p).data.toList = p.map fun n => UInt8.ofNat n.toNat by rw [strOfNums_data], index_ix c hc p hb]
/-! comments -/
def com : Nat → List Int → List Int
  | _, [] => []
  | _, [_] => []
  | d, c :: x :: t => if c = 92 then com d t else if c = 40 then com (d + 1) (x :: t) else if c = 41 then (if d = 1 then x :: t else com (d - 1) (x :: t)) else com d (x :: t)
theorem com_nil (d : Nat) : com d [] = [] := by unfold com; rfl
theorem com_cons (d : Nat) (c : Int) (t : List Int) : com d (c :: t) = if c = 92 then com d (t.drop 1) else if c = 40 then com (d + 1) t else if c = 41 then (if d = 1 then t else com (d - 1) t) else com d t := by
  cases t with
  | nil => simp only [List.drop_nil, com_nil, ite_self]; rw [com]
  | cons x t => rw [com]; rfl
theorem com_len : ∀ (n d : Nat) (l : List Int), l.length ≤ n → (com d l).length ≤ l.length
  | _, d, [], _ => by rw [com_nil]; exact Nat.le_refl _
  | 0, d, _ :: _, h => by simp at h
  | n + 1, d, c :: t, h => by
    have h' : t.length ≤ n := by simpa using h
    have h1 := com_len n d (t.drop 1) (by rw [List.length_drop]; omega)
    have h2 := com_len n (d + 1) t h'
    have h3 := com_len n (d - 1) t h'
    have h4 := com_len n d t h'
    rw [List.length_drop] at h1
    rw [com_cons, List.length_cons]
    split
    · omega
    · split
      · omega
      · split
        · split <;> omega
        · omega
theorem com_byte : ∀ (n d : Nat) (l : List Int), l.length ≤ n → byte l → byte (com d l)
  | _, d, [], _, hb => by rw [com_nil]; exact hb
  | 0, d, _ :: _, h, _ => by simp at h
  | n + 1, d, c :: t, h, hb => by
    have h' : t.length ≤ n := by simpa using h
    have hb' : byte t := fun x hx => hb x (List.mem_cons_of_mem _ hx)
    have h1 := com_byte n d (t.drop 1) (by rw [List.length_drop]; omega) (byte_drop hb' 1)
    have h2 := com_byte n (d + 1) t h' hb'
    have h3 := com_byte n (d - 1) t h' hb'
    have h4 := com_byte n d t h' hb'
    rw [com_cons]
    split
    · exact h1
    · split
      · exact h2
      · split
        · split
          · exact hb'
          · exact h3
        · exact h4
section
variable {s : List Int} (hb : byte s) (hl : s.length ≤ 10000)
include hb hl
theorem comment_l0 (m : Nat) : ∀ (i d : Nat), s.length - i ≤ m → 1 ≤ d → d ≤ i → i ≤ s.length + 1 → ∃ j : Nat, j ≤ s.length ∧ s.drop j = com d (s.drop i) ∧ Ev (fun k => addr_comment.l0 k (strOfNums s) (d : Int) (i : Int)) (j : Int) := by
  have stop : ∀ (i d : Nat), s.length ≤ i → ∃ j : Nat, j ≤ s.length ∧ s.drop j = com d (s.drop i) ∧ Ev (fun k => addr_comment.l0 k (strOfNums s) (d : Int) (i : Int)) (j : Int) := by
    intro i d h
    refine ⟨s.length, Nat.le_refl _, by rw [List.drop_length, List.drop_eq_nil_of_le h, com_nil], ?_⟩
    refine st (fun k => by rw [addr_comment.l0]) ?_
    simp only [strOfNums_size]
    exact no (by omega) (fin rfl)
  induction m with
  | zero => intro i d h1 h2 h3 h4; exact stop i d (by omega)
  | succ m ih =>
    intro i d h1 h2 h3 h4
    rcases Nat.lt_or_ge i s.length with hlt | hge
    · have e1 := wr1 (i := i) (by omega)
      have e2 := wr1 (i := i + 1) (by omega)
      have e3 := wr1 (i := d) (by omega)
      have e4 : wrap64 ((d : Int) - 1) = ((d - 1 : Nat) : Int) := by rw [w64 (by omega) (by omega)]; omega
      rw [drop_rd s i hlt, com_cons]
      by_cases c1 : rd s (i : Int) = 92
      · rw [if_pos c1, List.drop_drop]
        obtain ⟨j, hj1, hj2, hj3⟩ := ih (i + 1 + 1) d (by omega) h2 (by omega) (by omega)
        refine ⟨j, hj1, hj2, st (fun k => by rw [addr_comment.l0]) ?_⟩
        simp only [strOfNums_size, str_bt _ hb, e1, e2]
        clear e1 e2 e3 e4
        exact yes (by omega) (yes (by omega) (yes c1 hj3))
      · rw [if_neg c1]
        by_cases c2 : rd s (i : Int) = 40
        · rw [if_pos c2]
          obtain ⟨j, hj1, hj2, hj3⟩ := ih (i + 1) (d + 1) (by omega) (by omega) (by omega) (by omega)
          refine ⟨j, hj1, hj2, st (fun k => by rw [addr_comment.l0]) ?_⟩
          simp only [strOfNums_size, str_bt _ hb, e1, e2, e3]
          clear e1 e2 e3 e4
          exact yes (by omega) (yes (by omega) (no c1 (yes c2 hj3)))
        · rw [if_neg c2]
          by_cases c3 : rd s (i : Int) = 41
          · rw [if_pos c3]
            by_cases c4 : d = 1
            · rw [if_pos c4]
              refine ⟨i + 1, by omega, rfl, st (fun k => by rw [addr_comment.l0]) ?_⟩
              simp only [strOfNums_size, str_bt _ hb, e1, e2, e4]
              clear e1 e2 e3 e4
              exact yes (by omega) (yes (by omega) (no c1 (no c2 (yes c3 (yes (by omega) (fin rfl))))))
            · rw [if_neg c4]
              obtain ⟨j, hj1, hj2, hj3⟩ := ih (i + 1) (d - 1) (by omega) (by omega) (by omega) (by omega)
              refine ⟨j, hj1, hj2, st (fun k => by rw [addr_comment.l0]) ?_⟩
              simp only [strOfNums_size, str_bt _ hb, e1, e2, e4]
              clear e1 e2 e3 e4
              exact yes (by omega) (yes (by omega) (no c1 (no c2 (yes c3 (no (by omega) hj3)))))
          · rw [if_neg c3]
            obtain ⟨j, hj1, hj2, hj3⟩ := ih (i + 1) d (by omega) (by omega) (by omega) (by omega)
            refine ⟨j, hj1, hj2, st (fun k => by rw [addr_comment.l0]) ?_⟩
            simp only [strOfNums_size, str_bt _ hb, e1, e2]
            clear e1 e2 e3 e4
            exact yes (by omega) (yes (by omega) (no c1 (no c2 (no c3 hj3))))
    · exact stop i d hge
theorem comment_ok {t : List Int} (h : s = 40 :: t) : ∃ j : Nat, j ≤ s.length ∧ s.drop j = com 1 t ∧ Ev (fun k => addr_comment.f k (strOfNums s)) (j : Int) := by
  obtain ⟨j, h1, h2, h3⟩ := comment_l0 hb hl s.length 1 1 (by omega) (Nat.le_refl _) (Nat.le_refl _) (by omega)
  refine ⟨j, h1, by rw [h2, h]; rfl, ?_⟩
  unfold addr_comment.f
  refine st (fun k => by rw [addr_comment.l0]) ?_
  have e : wrap64 (0 + 1) = ((1 : Nat) : Int) := by rw [w64 (by omega) (by omega)]; rfl
  have e0 : rd s (0 : Int) = 40 := by rw [h]; rfl
  have hp : 0 < s.length := by rw [h]; simp
  simp only [strOfNums_size, str_bt _ hb, e]
  clear e
  exact yes (by omega) (yes (by omega) (no (by rw [e0]; decide) (yes e0 h3)))
end
/-! blanks and comments -/
def skp : Nat → List Int → List Int
  | 0, l => l
  | _ + 1, [] => []
  | n + 1, c :: t => if c = 32 ∨ c = 9 then skp n t else if c = 40 then skp n (com 1 t) else c :: t
theorem skp_len : ∀ (n : Nat) (l : List Int), (skp n l).length ≤ l.length
  | 0, l => Nat.le_refl _
  | n + 1, [] => Nat.le_refl _
  | n + 1, c :: t => by
    have h1 := skp_len n t
    have h2 := skp_len n (com 1 t)
    have h3 := com_len t.length 1 t (Nat.le_refl _)
    rw [skp, List.length_cons]
    split
    · omega
    · split
      · omega
      · simp
theorem skp_byte : ∀ (n : Nat) (l : List Int), byte l → byte (skp n l)
  | 0, l, h => h
  | n + 1, [], h => h
  | n + 1, c :: t, h => by
    have hb' : byte t := fun x hx => h x (List.mem_cons_of_mem _ hx)
    rw [skp]
    split
    · exact skp_byte n t hb'
    · split
      · exact skp_byte n _ (com_byte t.length 1 t (Nat.le_refl _) hb')
      · exact h
theorem skp_nil : ∀ n, skp n [] = []
  | 0 => rfl
  | n + 1 => rfl
theorem skp_fuel : ∀ (n m : Nat) (l : List Int), l.length ≤ n → l.length ≤ m → skp n l = skp m l
  | n, m, [], _, _ => by rw [skp_nil, skp_nil]
  | 0, m, c :: t, h, _ => by simp at h
  | n + 1, 0, c :: t, _, h => by simp at h
  | n + 1, m + 1, c :: t, h1, h2 => by
    have h3 := com_len t.length 1 t (Nat.le_refl _)
    simp only [List.length_cons] at h1 h2
    rw [skp, skp, skp_fuel n m t (by omega) (by omega), skp_fuel n m (com 1 t) (by omega) (by omega)]
def skipL (l : List Int) : List Int := skp l.length l
theorem skipL_nil : skipL [] = [] := rfl
theorem skipL_cons (c : Int) (t : List Int) : skipL (c :: t) = if c = 32 ∨ c = 9 then skipL t else if c = 40 then skipL (com 1 t) else c :: t := by
  have h3 := com_len t.length 1 t (Nat.le_refl _)
  unfold skipL
  rw [List.length_cons, skp, skp_fuel t.length (com 1 t).length (com 1 t) h3 (Nat.le_refl _)]
theorem skip_ok : ∀ (n : Nat) (l : List Int), byte l → l.length ≤ n → n ≤ 10000 → Ev (fun k => addr_skip.f k (strOfNums l)) (strOfNums (skipL l))
  | n, [], _, _, _ => by
    unfold addr_skip.f
    refine st (fun k => by rw [addr_skip.l0]) ?_
    exact yes ((str_toList_nil []).2 rfl) (fin rfl)
  | 0, _ :: _, _, h, _ => by simp at h
  | n + 1, c :: t, hb, h, hn => by
    have hb' : byte t := fun x hx => hb x (List.mem_cons_of_mem _ hx)
    simp only [List.length_cons] at h
    have hcl := com_len t.length 1 t (Nat.le_refl _)
    have ih1 := skip_ok n t hb' (by omega) (by omega)
    have ih2 := skip_ok n (com 1 t) (com_byte t.length 1 t (Nat.le_refl _) hb') (by omega) (by omega)
    unfold addr_skip.f at ih1 ih2 ⊢
    rw [skipL_cons]
    refine st (fun k => by rw [addr_skip.l0]) ?_
    have hne : (strOfNums (c :: t)).toList ≠ ([] : List UInt8) := fun e => by have := (str_toList_nil _).1 e; cases this
    have e0 : rd (c :: t) (0 : Int) = c := rfl
    have hbl : chars_Blank.f c = some (decide (c = 32 ∨ c = 9)) := by
      unfold chars_Blank.f
      by_cases h1 : c = 32
      · rw [if_pos h1, h1]; rfl
      · rw [if_neg h1]
        congr 1
        by_cases h2 : c = 9
        · rw [h2]; rfl
        · rw [decide_eq_false (fun e => e.elim h1 h2), beq_eq_false_iff_ne.2 h2]
    simp only [strOfNums_size, str_bt _ hb, e0, hbl, Option.bind_some, str_extract, List.take_length]
    refine no hne (yes (by simp) ?_)
    by_cases h1 : c = 32 ∨ c = 9
    · rw [if_pos h1]
      exact yes (decide_eq_true h1) (yes (by simp; omega) ih1)
    · rw [if_neg h1]
      refine no (by simpa using h1) ?_
      by_cases h2 : c = 40
      · rw [if_pos h2]
        obtain ⟨j, hj1, hj2, hj3⟩ := comment_ok hb (by simp; omega) (t := t) (by rw [h2])
        refine yes h2 (bnd hj3 (yes (by omega) (yes (by omega) ?_)))
        simp only [Int.toNat_natCast, hj2]
        exact ih2
      · rw [if_neg h2]
        exact no h2 (fin rfl)
/-! words -/
def stopc (c : Int) : Bool := decide (c ≤ 32) || decide (c = 127) || [60, 62, 58, 59, 44, 64, 40, 41, 34].contains c
def cut93 : List Int → Option (List Int × List Int)
  | [] => none
  | c :: t => if c = 93 then some ([c], t) else (cut93 t).map fun p => (c :: p.1, p.2)
theorem cut93_is : ∀ l : List Int, cut93 l = if ix 93 l < l.length then some (l.take (ix 93 l + 1), l.drop (ix 93 l + 1)) else none
  | [] => rfl
  | c :: t => by
    have ih := cut93_is t
    unfold cut93
    by_cases h : c = 93
    · have e : ix 93 (c :: t) = 0 := by unfold ix; rw [if_pos h]
      rw [if_pos h, e]; simp
    · have e : ix 93 (c :: t) = ix 93 t + 1 := by rw [ix, if_neg h]
      rw [if_neg h, e, ih]
      by_cases h2 : ix 93 t < t.length
      · rw [if_pos h2, if_pos (by simp; omega)]; rfl
      · rw [if_neg h2, if_neg (by simp; omega)]; rfl
def pln : Nat → List Int → Option (List Int × List Int)
  | 0, l => some ([], l)
  | _ + 1, [] => some ([], [])
  | n + 1, c :: t => if stopc c = true then some ([], c :: t) else if c = 91 then (cut93 (c :: t)).bind fun p => (pln n p.2).map fun q => (p.1 ++ q.1, q.2) else (pln n t).map fun q => (c :: q.1, q.2)
theorem cut93_len : ∀ {l a r : List Int}, cut93 l = some (a, r) → a.length + r.length = l.length ∧ 0 < a.length
  | [], _, _, h => by cases h
  | c :: t, a, r, h => by
    unfold cut93 at h
    split at h
    · obtain ⟨rfl, rfl⟩ := Prod.mk.inj (Option.some.inj h); simp; omega
    · obtain ⟨⟨a', r'⟩, h1, h2⟩ := Option.map_eq_some_iff.1 h
      obtain ⟨rfl, rfl⟩ := Prod.mk.inj h2
      have := cut93_len h1
      simp; omega
theorem stop_ok {c : Int} (h : 0 ≤ c ∧ c ≤ 255) : (if c ≤ 32 then true else if c = 127 then true else decide (Lib.indexByte (⟨#[60, 62, 58, 59, 44, 64, 40, 41, 34]⟩ : ByteArray).data.toList c.toNat.toUInt8 ≥ 0)) = stopc c :=
  of_bytes (p := fun c => (if c ≤ 32 then true else if c = 127 then true else decide (Lib.indexByte (⟨#[60, 62, 58, 59, 44, 64, 40, 41, 34]⟩ : ByteArray).data.toList c.toNat.toUInt8 ≥ 0)) = stopc c) (by decide +kernel) h
def plnOut (s w : List Int) : Option (List Int × List Int) → ByteArray × ByteArray
  | some p => (strOfNums (w ++ p.1), strOfNums p.2)
  | none => (⟨#[]⟩, strOfNums s)
section
variable {s : List Int} (hb : byte s) (hl : s.length ≤ 10000)
include hb hl
theorem plain_l0 (m : Nat) : ∀ (i : Nat), s.length - i ≤ m → i ≤ s.length → Ev (fun k => addr_plain.l0 k (strOfNums s) (i : Int)) (plnOut s (s.take i) (pln m (s.drop i))) := by
  have stop : Ev (fun k => addr_plain.l0 k (strOfNums s) (s.length : Int)) (strOfNums s, strOfNums []) := by
    refine st (fun k => by rw [addr_plain.l0]) ?_
    simp only [strOfNums_size, str_extract, Int.toNat_natCast, List.take_length, List.drop_length, List.drop_zero]
    exact no (by omega) (yes (by omega) (yes (by omega) (fin rfl)))
  induction m with
  | zero =>
    intro i h1 h2
    obtain rfl : i = s.length := by omega
    rw [pln, List.drop_length, List.take_length]
    refine toE stop ?_
    simp [plnOut]
  | succ m ih =>
    intro i h1 h2
    rcases Nat.lt_or_ge i s.length with hlt | hge
    · have hx := hb _ (rd_mem s i hlt)
      have e1 := wr1 (i := i) (by omega)
      have hd := drop_rd s i hlt
      have hst := stop_ok hx
      have ht : s.take (i + 1) = s.take i ++ [rd s (i : Int)] := by rw [List.take_succ_eq_append_getElem hlt, rd_at s i hlt]
      have ihn := ih (i + 1) (by omega) hlt
      rw [ht] at ihn
      have J : ∀ b : Bool, b = stopc (rd s (i : Int)) → Ev (fun k => addr_plain.j1 k (strOfNums s) (i : Int) (rd s (i : Int)) b) (plnOut s (s.take i) (pln (m + 1) (s.drop i))) := by
        intro b hbb
        have q1 : b = true → pln (m + 1) (s.drop i) = some ([], s.drop i) := fun e => by rw [hd, pln, ← hbb, if_pos e]
        have q2 : b = false → rd s (i : Int) = 91 → pln (m + 1) (s.drop i) = (cut93 (s.drop i)).bind fun p => (pln m p.2).map fun q => (p.1 ++ q.1, q.2) := fun e e2 => by rw [hd, pln, ← hbb, if_neg (by rw [e]; decide), if_pos e2]
        have q3 : b = false → rd s (i : Int) ≠ 91 → pln (m + 1) (s.drop i) = (pln m (s.drop (i + 1))).map fun q => (rd s (i : Int) :: q.1, q.2) := fun e e2 => by rw [hd, pln, ← hbb, if_neg (by rw [e]; decide), if_neg e2]
        refine st (fun k => by rw [addr_plain.j1]) ?_
        have hpre : ∀ o : Option (List Int × List Int), plnOut s (s.take i) (o.map fun q => (rd s (i : Int) :: q.1, q.2)) = plnOut s (s.take i ++ [rd s (i : Int)]) o := by
          intro o
          cases o with
          | none => rfl
          | some q => simp [plnOut]
        simp only [strOfNums_size, str_extract, Int.toNat_natCast, List.take_length, List.drop_zero, e1]
        clear e1
        cases b with
        | true =>
          rw [q1 rfl]
          exact yes rfl (yes (by omega) (yes (by omega) (fin (by simp [plnOut]))))
        | false =>
          refine no (by decide) ?_
          by_cases c1 : rd s (i : Int) = 91
          · rw [q2 rfl c1, cut93_is]
            have hix := indexed 93 (by omega) (s.drop i) (byte_drop hb i)
            refine yes c1 (yes (by omega) (yes (by omega) ?_))
            rw [hix]
            refine bs ?_
            by_cases c2 : ix 93 (s.drop i) < (s.drop i).length
            · rw [if_pos c2, if_pos c2, Option.bind_some]
              have hle := c2
              rw [List.length_drop] at hle
              have e2 : wrap64 ((i : Int) + wrap64 ((ix 93 (s.drop i) : Int) + 1)) = ((i + ix 93 (s.drop i) + 1 : Nat) : Int) := by
                rw [wr1 (by omega), w64 (by omega) (by omega)]; omega
              have ih2 := ih (i + ix 93 (s.drop i) + 1) (by omega) (by omega)
              refine no (by omega) ?_
              simp only [e2]
              refine toE ih2 ?_
              have e3 : s.take i ++ (s.drop i).take (ix 93 (s.drop i) + 1) = s.take (i + ix 93 (s.drop i) + 1) := by
                rw [Nat.add_assoc]; exact List.take_add.symm
              have e4 : (s.drop i).drop (ix 93 (s.drop i) + 1) = s.drop (i + ix 93 (s.drop i) + 1) := by rw [List.drop_drop, Nat.add_assoc]
              rw [← e3]
              simp only [e4]
              cases pln m (s.drop (i + ix 93 (s.drop i) + 1)) with
              | none => rfl
              | some q => simp [plnOut]
            · rw [if_neg c2, if_neg c2]
              exact yes (by decide) (fin rfl)
          · rw [q3 rfl c1, hpre]
            exact no c1 ihn
      refine st (fun k => by rw [addr_plain.l0]) ?_
      simp only [strOfNums_size, str_bt _ hb]
      refine yes (by omega) (yes (by omega) ?_)
      by_cases d1 : rd s (i : Int) ≤ 32
      · rw [if_pos d1] at hst
        exact yes d1 (J true hst)
      · rw [if_neg d1] at hst
        refine no d1 ?_
        by_cases d2 : rd s (i : Int) = 127
        · rw [if_pos d2] at hst
          exact yes d2 (J true hst)
        · rw [if_neg d2] at hst
          exact no d2 (bs (J _ hst))
    · obtain rfl : i = s.length := by omega
      rw [List.drop_length, List.take_length, pln]
      refine toE stop ?_
      simp [plnOut]
theorem plain_ok : Ev (fun k => addr_plain.f k (strOfNums s)) (plnOut s [] (pln s.length s)) := by
  unfold addr_plain.f
  exact plain_l0 hb hl s.length 0 (by omega) (Nat.zero_le _)
end
/-! quoted texts -/
def qtd : List Int → Option (List Int × List Int)
  | [] => none
  | [c] => if c = 34 then some ([], []) else none
  | c :: x :: t => if c = 34 then some ([], x :: t) else if c = 92 then (qtd t).map fun p => (x :: p.1, p.2) else (qtd (x :: t)).map fun p => (c :: p.1, p.2)
theorem qtd_cons (c : Int) (t : List Int) : qtd (c :: t) = if c = 34 then some ([], t) else if c = 92 then (match t with | [] => none | x :: u => (qtd u).map fun p => (x :: p.1, p.2)) else (qtd t).map fun p => (c :: p.1, p.2) := by
  cases t with
  | nil =>
    conv => lhs; rw [qtd]
    split
    · rfl
    · split <;> rfl
  | cons x t => rw [qtd]
def qtdOut (acc : List Int) : Option (List Int × List Int) → ByteArray × ByteArray × Bool
  | some p => (strOfNums (acc ++ p.1), strOfNums p.2, true)
  | none => (⟨#[]⟩, ⟨#[]⟩, false)
theorem qtdOut_map (acc : List Int) (c : Int) (o : Option (List Int × List Int)) : qtdOut acc (o.map fun p => (c :: p.1, p.2)) = qtdOut (acc ++ [c]) o := by
  cases o with
  | none => rfl
  | some q => simp [qtdOut]
section
variable {s : List Int} (hb : byte s) (hl : s.length ≤ 10000)
include hb hl
theorem quoted_l0 (m : Nat) : ∀ (i : Nat) (acc : List Int), s.length - i ≤ m → i ≤ s.length + 1 → acc.length ≤ i → Ev (fun k => addr_quoted.l0 k (strOfNums s) acc (i : Int)) (qtdOut acc (qtd (s.drop i))) := by
  have stop : ∀ (i : Nat) (acc : List Int), s.length ≤ i → Ev (fun k => addr_quoted.l0 k (strOfNums s) acc (i : Int)) (qtdOut acc (qtd (s.drop i))) := by
    intro i acc h
    rw [List.drop_eq_nil_of_le h]
    refine st (fun k => by rw [addr_quoted.l0]) ?_
    simp only [strOfNums_size]
    exact no (by omega) (fin rfl)
  induction m with
  | zero => intro i acc h1 h2 h3; exact stop i acc (by omega)
  | succ m ih =>
    intro i acc h1 h2 h3
    rcases Nat.lt_or_ge i s.length with hlt | hge
    · have e1 := wr1 (i := i) (by omega)
      have e2 := wr1 (i := i + 1) (by omega)
      rw [drop_rd s i hlt, qtd_cons]
      refine st (fun k => by rw [addr_quoted.l0]) ?_
      simp only [strOfNums_size, str_bt _ hb, e1, e2, str_extract, List.take_length, Int.toNat_natCast]
      refine yes (by omega) (yes (by omega) ?_)
      by_cases c1 : rd s (i : Int) = 34
      · rw [if_pos c1]
        exact yes c1 (yes (by omega) (yes (by omega) (fin (by simp [qtdOut]))))
      · rw [if_neg c1]
        refine no c1 ?_
        by_cases c2 : rd s (i : Int) = 92
        · rw [if_pos c2]
          refine yes c2 ?_
          by_cases c3 : i + 1 < s.length
          · rw [drop_rd s (i + 1) c3]
            simp only
            rw [qtdOut_map]
            exact yes (by omega) (yes (by omega) (yes (by omega) (ih (i + 1 + 1) _ (by omega) (by omega) (by simp; omega))))
          · rw [List.drop_eq_nil_of_le (by omega)]
            have := ih (i + 1 + 1) acc (by omega) (by omega) (by omega)
            rw [List.drop_eq_nil_of_le (by omega)] at this
            exact no (by omega) this
        · rw [if_neg c2, qtdOut_map]
          exact no c2 (yes (by omega) (ih (i + 1) _ (by omega) (by omega) (by simp; omega)))
    · exact stop i acc hge
theorem quoted_ok {c : Int} {t : List Int} (h : s = c :: t) : Ev (fun k => addr_quoted.f k (strOfNums s)) (qtdOut [] (qtd t)) := by
  unfold addr_quoted.f
  have := quoted_l0 hb hl s.length 1 [] (by omega) (by omega) (by simp)
  rw [h] at this ⊢
  exact this
end
end Go.Proofs.Ytcjepgofcojeoaa.Ad
