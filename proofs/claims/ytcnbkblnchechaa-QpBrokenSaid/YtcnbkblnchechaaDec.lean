/- A text's lines, and their bytes: the program's Decode and the reference's are one plain function. -/
import Derived.Test.YtcnbkblnchechaaQp
import Derived.Test.YtcnbkblnchechaaPx3
import Derived.Test.YtcnbkblnchechaaPx6
set_option linter.unusedVariables false
set_option linter.unusedSimpArgs false
namespace Go.Proofs.Ytcnbkblnchechaa.Qp
open Go.RowKit Go.Proofs.Ytcnbkblnchechaa.P Go.Proofs.YtcnbkblnchechaaW.PrintWords Go.Proofs.YtcnbkblnchechaaW.PrintLast Go.Proofs.YtcnbkblnchechaaW.PrintMore Go.Proofs.Ytcnbkblnchechaa.Aids

def blank (c : Int) : Bool := c = 32 ∨ c = 9
def trimR (l : List Int) : List Int := (l.reverse.dropWhile blank).reverse
theorem trimR_nil : trimR [] = [] := rfl
theorem trimR_snoc (l : List Int) (c : Int) : trimR (l ++ [c]) = if c = 32 ∨ c = 9 then trimR l else l ++ [c] := by
  unfold trimR
  rw [List.reverse_append]
  simp only [List.reverse_cons, List.reverse_nil, List.nil_append, List.singleton_append, List.dropWhile_cons, blank]
  by_cases h : c = 32 ∨ c = 9 <;> simp [h]
theorem trimR_len (l : List Int) : (trimR l).length ≤ l.length := by
  unfold trimR
  rw [List.length_reverse]
  have := (List.dropWhile_sublist blank (l := l.reverse)).length_le
  rwa [List.length_reverse] at this
theorem trimR_mem {l : List Int} : ∀ c ∈ trimR l, c ∈ l := by
  intro c hc
  unfold trimR at hc
  rw [List.mem_reverse] at hc
  have := (List.dropWhile_sublist blank).subset hc
  simpa using this
/-- where the first line feed is, from i on -/
def idx (b : List Int) (i : Nat) : Nat := i + ((b.drop i).takeWhile (fun c => c ≠ 10)).length
theorem idx_le (b : List Int) (i : Nat) (h : i ≤ b.length) : idx b i ≤ b.length := by
  unfold idx
  have := (List.takeWhile_sublist (fun c : Int => decide (c ≠ 10)) (l := b.drop i)).length_le
  rw [List.length_drop] at this
  omega
theorem idx_end (b : List Int) (i : Nat) (h : b.length ≤ i) : idx b i = i := by
  unfold idx; rw [List.drop_eq_nil_of_le h]; rfl
theorem idx_at (b : List Int) (i : Nat) (h : i < b.length) (h10 : rd b (i : Int) = 10) : idx b i = i := by
  unfold idx; rw [drop_rd b i h, h10]; simp
theorem idx_on (b : List Int) (i : Nat) (h : i < b.length) (h10 : rd b (i : Int) ≠ 10) : idx b i = idx b (i + 1) := by
  unfold idx; rw [drop_rd b i h, List.takeWhile_cons]; simp [h10]; omega
theorem idx_10 (b : List Int) (d : Nat) : ∀ i, b.length - i ≤ d → i ≤ b.length → idx b i < b.length → rd b (idx b i : Nat) = 10 := by
  induction d with
  | zero => intro i hd hi h; rw [idx_end b i (by omega)] at h; omega
  | succ d ih =>
    intro i hd hi h
    by_cases hl : i < b.length
    · by_cases h10 : rd b (i : Int) = 10
      · rw [idx_at b i hl h10]; exact h10
      · rw [idx_on b i hl h10] at h ⊢; exact ih (i + 1) (by omega) (by omega) h
    · rw [idx_end b i (by omega)] at h; omega
def toP (b : List Int) (k : Nat) : Nat := if k < b.length ∧ 0 < k ∧ rd b ((k - 1 : Nat) : Int) = 13 then k - 1 else k
theorem toP_le (b : List Int) (k : Nat) : toP b k ≤ k := by unfold toP; split <;> omega
def nextP (b : List Int) (k : Nat) : Nat := min (k + 1) b.length
def lineS (b : List Int) : List Int × List Int × List Int := (trimR (b.take (toP b (idx b 0))), (b.take (nextP b (idx b 0))).drop (toP b (idx b 0)), b.drop (nextP b (idx b 0)))
theorem snoc_or (l : List Int) : l = [] ∨ ∃ m c, l = m ++ [c] := by
  rcases List.eq_nil_or_concat l with h | ⟨m, c, h⟩
  · exact .inl h
  · exact .inr ⟨m, c, by simpa using h⟩
theorem line_l1 (x0 : List Int) (nx : Nat) (hn : nx ≤ x0.length) (x8 : List Int) (n : Nat) : ∀ x7 : List Int, x7.length ≤ n → n ≤ 100000 →
    Ev (fun k => qp_line.l1 k x0 (nx : Int) x7 x8) (trimR x7, x8, x0.drop nx) := by
  induction n with
  | zero =>
    intro x7 h _
    have : x7 = [] := List.eq_nil_of_length_eq_zero (by omega)
    subst this
    refine st (fun k => by rw [qp_line.l1]) ?_
    exact (no (by simp) (yes (by omega) (yes (by omega) (fin rfl))))
  | succ n ih =>
    intro x7 h hb
    rcases snoc_or x7 with rfl | ⟨m, c, rfl⟩
    · refine st (fun k => by rw [qp_line.l1]) ?_
      exact (no (by simp) (yes (by omega) (yes (by omega) (fin rfl))))
    · have hl : (m ++ [c]).length = m.length + 1 := by simp
      have e : wrap64 (((m ++ [c]).length : Int) - 1) = (m.length : Int) := by rw [w64 (by omega) (by omega)]; omega
      refine st (fun k => by rw [qp_line.l1]) ?_
      refine yes (by omega) ?_
      simp only [e, rd_last]
      refine yes (by omega) (yes (by omega) ?_)
      rw [trimR_snoc]
      have hm : (m ++ [c]).take ((m.length : Int)).toNat = m := by simp
      have go := ih m (by omega) (by omega)
      by_cases h32 : c = 32
      · rw [if_pos (Or.inl h32)]
        refine yes h32 (yes (by omega) ?_)
        rw [hm]; exact go
      · by_cases h9 : c = 9
        · rw [if_pos (Or.inr h9)]
          refine no h32 (yes h9 (yes (by omega) ?_))
          rw [hm]; exact go
        · rw [if_neg (show ¬ (c = 32 ∨ c = 9) from fun h => h.elim h32 h9)]
          exact no h32 (no h9 (yes (by omega) (yes (by omega) (fin rfl))))
theorem mn_next (b : List Int) (k : Nat) (hk : k ≤ b.length) (hb : b.length ≤ 100000) : mn (wrap64 ((k : Int) + 1)) (b.length : Int) = (nextP b k : Nat) := by
  rw [w64 (by omega) (by omega)]
  unfold mn nextP
  split <;> omega
theorem line_j1 (b : List Int) (hb : b.length ≤ 100000) (k : Nat) (hk : k ≤ b.length) : Ev (fun f => qp_line.j1 f b (k : Int)) (trimR (b.take (toP b k)), (b.take (nextP b k)).drop (toP b k), b.drop (nextP b k)) := by
  have hnx : nextP b k ≤ b.length := by unfold nextP; omega
  have hkn : k ≤ nextP b k := by unfold nextP; omega
  have j3 : ∀ tp : Nat, tp ≤ k → Ev (fun f => qp_line.j3 f b (tp : Int) (nextP b k : Nat)) (trimR (b.take tp), (b.take (nextP b k)).drop tp, b.drop (nextP b k)) := by
    intro tp ht
    refine st (fun f => by rw [qp_line.j3]) ?_
    refine yes (by omega) (yes (by omega) (yes (by omega) (yes (by omega) ?_)))
    simp only [Int.toNat_natCast]
    exact line_l1 b _ hnx _ 100000 _ (by simp; omega) (Nat.le_refl _)
  have j2f : toP b k = k → Ev (fun f => qp_line.j2 f b (k : Int) (nextP b k : Nat) false) (trimR (b.take (toP b k)), (b.take (nextP b k)).drop (toP b k), b.drop (nextP b k)) := by
    intro h
    rw [h]
    refine st (fun f => by rw [qp_line.j2]) ?_
    exact (no (by simp) (j3 k (Nat.le_refl _)))
  refine st (fun f => by rw [qp_line.j1]) ?_
  simp only [mn_next b k hk hb]
  by_cases h1 : k < b.length
  · refine yes (by omega) ?_
    by_cases h2 : 0 < k
    · have e : wrap64 ((k : Int) - 1) = ((k - 1 : Nat) : Int) := by rw [w64 (by omega) (by omega)]; omega
      refine yes (by omega) ?_
      simp only [e]
      refine yes (by omega) (yes (by omega) ?_)
      by_cases h13 : rd b ((k - 1 : Nat) : Int) = 13
      · have ht : toP b k = k - 1 := by unfold toP; rw [if_pos ⟨h1, h2, h13⟩]
        rw [show (rd b ((k - 1 : Nat) : Int) == 13) = true from beq_iff_eq.2 h13, ht]
        refine st (fun f => by rw [qp_line.j2]) ?_
        refine yes rfl ?_
        simp only [e]
        exact j3 (k - 1) (by omega)
      · rw [show (rd b ((k - 1 : Nat) : Int) == 13) = false from beq_eq_false_iff_ne.2 h13]
        exact j2f (by unfold toP; rw [if_neg (fun h => h13 h.2.2)])
    · exact no (by omega) (j2f (by unfold toP; rw [if_neg (fun h => h2 h.2.1)]))
  · exact no (by omega) (j2f (by unfold toP; rw [if_neg (fun h => h1 h.1)]))
theorem line_l0 (b : List Int) (hb : b.length ≤ 100000) (d : Nat) : ∀ i : Nat, b.length - i ≤ d → i ≤ b.length → Ev (fun f => qp_line.l0 f b (i : Int)) (trimR (b.take (toP b (idx b i))), (b.take (nextP b (idx b i))).drop (toP b (idx b i)), b.drop (nextP b (idx b i))) := by
  induction d with
  | zero =>
    intro i hd hi
    rw [idx_end b i (by omega)]
    refine st (fun f => by rw [qp_line.l0]) ?_
    exact (no (by omega) (line_j1 b hb i hi))
  | succ d ih =>
    intro i hd hi
    by_cases hl : i < b.length
    · refine st (fun f => by rw [qp_line.l0]) ?_
      refine yes (by omega) (yes (by omega) ?_)
      by_cases h10 : rd b (i : Int) = 10
      · rw [idx_at b i hl h10]
        exact yes h10 (line_j1 b hb i hi)
      · rw [idx_on b i hl h10]
        refine no h10 ?_
        simp only [w64 (x := (i : Int) + 1) (by omega) (by omega)]
        exact ih (i + 1) (by omega) (by omega)
    · rw [idx_end b i (by omega)]
      refine st (fun f => by rw [qp_line.l0]) ?_
      exact (no (by omega) (line_j1 b hb i hi))
theorem line_eq (b : List Int) (hb : b.length ≤ 100000) : Ev (fun f => qp_line.f f b) (lineS b) := line_l0 b hb b.length 0 (by omega) (by omega)

/-- a soft line's sign at the end of a text -/
def soft (t e : List Int) : List Int × List Int := if t.getLast? = some 61 then (t.dropLast, []) else (t, e)
theorem soft_snoc (m e : List Int) (c : Int) : soft (m ++ [c]) e = if c = 61 then (m, []) else (m ++ [c], e) := by
  unfold soft; simp
theorem soft_nil (e : List Int) : soft [] e = ([], e) := rfl
theorem next_pos (b : List Int) (h : b ≠ []) (k : Nat) : (b.drop (nextP b k)).length < b.length := by
  have : 0 < b.length := List.length_pos_iff.2 h
  rw [List.length_drop]; unfold nextP; omega
def decS (b : List Int) : Option (List Int) :=
  if h : b = [] then some []
  else (readS (soft (lineS b).1 (lineS b).2.1).1).bind fun p => (decS (lineS b).2.2).map fun o => p ++ (soft (lineS b).1 (lineS b).2.1).2 ++ o
termination_by b.length
decreasing_by exact next_pos b h _
theorem decS_nil : decS [] = some [] := by rw [decS.eq_def]; simp
theorem decS_cons (b : List Int) (h : b ≠ []) : decS b = (readS (soft (lineS b).1 (lineS b).2.1).1).bind fun p => (decS (lineS b).2.2).map fun o => p ++ (soft (lineS b).1 (lineS b).2.1).2 ++ o := by
  rw [decS.eq_def]; simp [h]
theorem line_bytes {b : List Int} (hx : ∀ c ∈ b, 0 ≤ c ∧ c ≤ 255) : (∀ c ∈ (lineS b).1, 0 ≤ c ∧ c ≤ 255) ∧ (∀ c ∈ (lineS b).2.1, 0 ≤ c ∧ c ≤ 255) ∧ (∀ c ∈ (lineS b).2.2, 0 ≤ c ∧ c ≤ 255) :=
  ⟨fun c hc => hx c (List.mem_of_mem_take (trimR_mem c hc)), fun c hc => hx c (List.mem_of_mem_take (List.mem_of_mem_drop hc)), fun c hc => hx c (List.mem_of_mem_drop hc)⟩
theorem line_len (b : List Int) : (lineS b).1.length + (lineS b).2.1.length + (lineS b).2.2.length ≤ b.length := by
  have h1 := trimR_len (b.take (toP b (idx b 0)))
  have h2 := toP_le b (idx b 0)
  have h3 : toP b (idx b 0) ≤ nextP b (idx b 0) := by
    have := idx_le b 0 (by omega)
    unfold nextP; omega
  have h4 : nextP b (idx b 0) ≤ b.length := by unfold nextP; omega
  rw [List.length_take] at h1
  simp only [lineS, List.length_drop, List.length_take]; omega
theorem readS_len (n : Nat) : ∀ (l o : List Int), l.length ≤ n → readS l = some o → o.length ≤ l.length := by
  induction n with
  | zero =>
    intro l o hl h
    have : l = [] := List.eq_nil_of_length_eq_zero (by omega)
    subst this
    rw [readS_nil] at h; injection h with h; subst h; simp
  | succ n ih =>
    intro l o hl h
    rcases l with _ | ⟨c, t⟩
    · rw [readS_nil] at h; injection h with h; subst h; simp
    · by_cases h61 : c = 61
      · subst h61
        rcases t with _ | ⟨a, _ | ⟨b, u⟩⟩
        · rw [readS_short _ (by simp)] at h; cases h
        · rw [readS_short _ (by simp)] at h; cases h
        · rw [readS_hex] at h
          simp only [Option.bind_eq_some_iff, Option.map_eq_some_iff] at h
          obtain ⟨x, _, y, _, z, hz, rfl⟩ := h
          have := ih u z (by simp at hl; omega) hz
          simp; omega
      · by_cases hp : plain c
        · rw [readS_plain _ h61 hp] at h
          simp only [Option.map_eq_some_iff] at h
          obtain ⟨z, hz, rfl⟩ := h
          have := ih t z (by simp at hl; omega) hz
          simp; omega
        · rw [readS_bad _ h61 hp] at h; cases h
theorem readS_bytes (n : Nat) : ∀ (l o : List Int), l.length ≤ n → readS l = some o → ∀ c ∈ o, 0 ≤ c ∧ c ≤ 255 := by
  induction n with
  | zero =>
    intro l o hl h
    have : l = [] := List.eq_nil_of_length_eq_zero (by omega)
    subst this
    rw [readS_nil] at h; injection h with h; subst h; intro c hc; cases hc
  | succ n ih =>
    intro l o hl h
    rcases l with _ | ⟨c, t⟩
    · rw [readS_nil] at h; injection h with h; subst h; intro c hc; cases hc
    · by_cases h61 : c = 61
      · subst h61
        rcases t with _ | ⟨a, _ | ⟨b, u⟩⟩
        · rw [readS_short _ (by simp)] at h; cases h
        · rw [readS_short _ (by simp)] at h; cases h
        · rw [readS_hex] at h
          simp only [Option.bind_eq_some_iff, Option.map_eq_some_iff] at h
          obtain ⟨x, hx, y, hy, z, hz, rfl⟩ := h
          have r1 := V_range hx
          have r2 := V_range hy
          intro e he
          rcases List.mem_cons.1 he with rfl | he
          · omega
          · exact ih u z (by simp at hl; omega) hz e he
      · by_cases hp : plain c
        · rw [readS_plain _ h61 hp] at h
          simp only [Option.map_eq_some_iff] at h
          obtain ⟨z, hz, rfl⟩ := h
          intro e he
          rcases List.mem_cons.1 he with rfl | he
          · unfold plain at hp; omega
          · exact ih t z (by simp at hl; omega) hz e he
        · rw [readS_bad _ h61 hp] at h; cases h
theorem told_nil (o : List Int) : told [] (some o) = (o, true) := rfl
theorem dec_l0 (n : Nat) : ∀ (b acc : List Int), b.length ≤ n → n ≤ 100000 → acc.length + b.length ≤ 200000 → (∀ c ∈ b, 0 ≤ c ∧ c ≤ 255) → Ev (fun k => qp_Decode.l0 k b acc) (told acc (decS b)) := by
  induction n with
  | zero =>
    intro b acc hb _ _ _
    have : b = [] := List.eq_nil_of_length_eq_zero (by omega)
    subst this
    rw [decS_nil]
    refine st (fun k => by rw [qp_Decode.l0]) ?_
    exact (no (by simp) (fin (by simp [told])))
  | succ n ih =>
    intro b acc hb hn ha hx
    by_cases h0 : b = []
    · subst h0
      rw [decS_nil]
      refine st (fun k => by rw [qp_Decode.l0]) ?_
      exact (no (by simp) (fin (by simp [told])))
    · have hpos : 0 < b.length := List.length_pos_iff.2 h0
      have hr : (lineS b).2.2.length < b.length := next_pos b h0 _
      have hlb := line_bytes hx
      have hll := line_len b
      rw [decS_cons b h0]
      refine st (fun k => by rw [qp_Decode.l0]) ?_
      refine yes (by omega) (bnd (line_eq b (by omega)) ?_)
      generalize (lineS b) = L at *
      obtain ⟨t, e, rest⟩ := L
      simp only at hr hlb hll ⊢
      have tail : ∀ (u f : List Int), u.length ≤ t.length → f.length ≤ e.length → ∀ p, readS u = some p → Ev (fun k => qp_Decode.l0 k rest (acc ++ p ++ f)) (told acc ((decS rest).map fun o => p ++ f ++ o)) := by
        intro u f hu hf p hp
        have hpl := readS_len u.length u p (Nat.le_refl _) hp
        have go := ih rest (acc ++ p ++ f) (by omega) (by omega) (by simp only [List.length_append]; omega) hlb.2.2
        refine toE go ?_
        cases decS rest <;> simp [told]
      have j1f : ∀ n : Int, (t.getLast? ≠ some 61) → Ev (fun k => qp_Decode.j1 k rest acc t e n false) (told acc ((readS (soft t e).1).bind fun p => (decS rest).map fun o => p ++ (soft t e).2 ++ o)) := by
        intro n hs
        rw [show soft t e = (t, e) by unfold soft; rw [if_neg hs]]
        refine st (fun k => by rw [qp_Decode.j1]) ?_
        refine no (by simp) (bnd (read_eq t hlb.1 (by omega)) ?_)
        cases hp : readS t with
        | none => exact no (by simp [told]) (fin rfl)
        | some p =>
          have hpl := readS_len t.length t p (Nat.le_refl _) hp
          rw [told_nil]
          dsimp only
          exact yes rfl (yes (by omega) (bs (yes (by rw [List.length_append]; omega) (tail t e (Nat.le_refl _) (Nat.le_refl _) p hp))))
      rcases snoc_or t with rfl | ⟨m, c, rfl⟩
      · refine no (by simp; rw [w64] <;> omega) (j1f _ (by simp))
      · have hl : (m ++ [c]).length = m.length + 1 := by simp
        have e1 : wrap64 (((m ++ [c]).length : Int) - 1) = (m.length : Int) := by rw [w64 (by omega) (by omega)]; omega
        simp only [e1, rd_last]
        refine yes (by omega) (yes (by omega) (yes (by omega) ?_))
        by_cases h61 : c = 61
        · rw [show (c == 61) = true from beq_iff_eq.2 h61, soft_snoc, if_pos h61]
          refine st (fun k => by rw [qp_Decode.j1]) ?_
          refine yes rfl (yes (by omega) (yes (by omega) ?_))
          have hm : (m ++ [c]).take ((m.length : Int)).toNat = m := by simp
          rw [hm]
          refine bnd (read_eq m (fun x hx => hlb.1 x (List.mem_append_left _ hx)) (by omega)) ?_
          cases hp : readS m with
          | none => exact no (by simp [told]) (fin rfl)
          | some p =>
            have hpl := readS_len m.length m p (Nat.le_refl _) hp
            rw [told_nil]
            dsimp only
            exact yes rfl (yes (by omega) (bs (yes (by rw [List.length_append, List.length_nil]; omega) (tail m [] (by omega) (by simp) p hp))))
        · rw [show (c == 61) = false from beq_eq_false_iff_ne.2 h61]
          exact j1f _ (by simpa using h61)
theorem dec_eq (b : List Int) (hb : b.length ≤ 100000) (hx : ∀ c ∈ b, 0 ≤ c ∧ c ≤ 255) : Ev (fun k => qp_Decode.f k b) (told [] (decS b)) :=
  dec_l0 b.length b [] (Nat.le_refl _) hb (by simp; omega) hx
end Go.Proofs.Ytcnbkblnchechaa.Qp
