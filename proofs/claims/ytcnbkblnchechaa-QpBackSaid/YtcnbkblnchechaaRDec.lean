/- The reference's Decode is the same plain function. -/
import Derived.Test.YtcnbkblnchechaaDec
set_option linter.unusedVariables false
set_option linter.unusedSimpArgs false
namespace Go.Proofs.Ytcnbkblnchechaa.Qp
open Go.RowKit Go.Proofs.Ytcnbkblnchechaa.P Go.Proofs.YtcnbkblnchechaaW.PrintWords Go.Proofs.YtcnbkblnchechaaW.PrintLast Go.Proofs.YtcnbkblnchechaaW.PrintMore Go.Proofs.Ytcnbkblnchechaa.Aids

def toldB (acc : List Int) : Option (List Int) → ByteArray × Bool
  | some o => (strOfNums (acc ++ o), true)
  | none => (⟨#[]⟩, false)
theorem ref_l2 (x0 x4 x7 : ByteArray) (R : ByteArray × Bool) (n : Nat) : ∀ l : List Int, l.length ≤ n → n ≤ 100000 → byte l →
    Ev (fun k => letterboxref03_Decode.j5 k x0 x4 (strOfNums (trimR l)) x7) R → Ev (fun k => letterboxref03_Decode.l2 k x0 x4 (strOfNums l) x7) R := by
  induction n with
  | zero =>
    intro l hl _ hb h
    have : l = [] := List.eq_nil_of_length_eq_zero (by omega)
    subst this
    refine st (fun k => by rw [letterboxref03_Decode.l2]) ?_
    exact no (by decide) h
  | succ n ih =>
    intro l hl hn hb h
    rcases snoc_or l with rfl | ⟨m, c, rfl⟩
    · refine st (fun k => by rw [letterboxref03_Decode.l2]) ?_
      exact no (by decide) h
    · refine st (fun k => by rw [letterboxref03_Decode.l2]) ?_
      have hlen : (m ++ [c]).length = m.length + 1 := by simp
      have e : wrap64 (((m ++ [c]).length : Int) - 1) = (m.length : Int) := by rw [w64 (by omega) (by omega)]; omega
      simp only [strOfNums_size, e, str_bt _ hb, rd_last, str_extract, Int.toNat_natCast, List.drop_zero]
      refine yes (by omega) (yes (by omega) (yes (by omega) ?_))
      have hm : (m ++ [c]).take m.length = m := by simp
      rw [trimR_snoc] at h
      by_cases h32 : c = 32
      · refine yes h32 (yes (by omega) ?_)
        rw [if_pos (Or.inl h32)] at h
        rw [hm]; exact ih m (by omega) (by omega) (byte_left hb) h
      · by_cases h9 : c = 9
        · refine no h32 (yes h9 (yes (by omega) ?_))
          rw [if_pos (Or.inr h9)] at h
          rw [hm]; exact ih m (by omega) (by omega) (byte_left hb) h
        · rw [if_neg (show ¬ (c = 32 ∨ c = 9) from fun h => h.elim h32 h9)] at h
          exact no h32 (no h9 h)
theorem ref_text (l : List Int) (hb : byte l) (hl : l.length ≤ 100000) : Ev (fun k => letterboxref03_text.f k (strOfNums l)) (toldS [] (readS l)) := by
  have := text_eq (strOfNums l) (by rw [strOfNums_size]; exact hl)
  rwa [bytes_str l hb] at this
theorem toldS_some (o : List Int) : toldS [] (some o) = (strOfNums o, true) := rfl
theorem ref_j5 (x0 : ByteArray) (acc t e : List Int) (ht : byte t) (htl : t.length ≤ 100000) (hal : acc.length + e.length ≤ 300000) (R : ByteArray × Bool)
    (hn : readS (soft t e).1 = none → R = (⟨#[]⟩, false))
    (h : ∀ p, readS (soft t e).1 = some p → Ev (fun k => letterboxref03_Decode.l0 k x0 (strOfNums (acc ++ (p ++ (soft t e).2)))) R) :
    Ev (fun k => letterboxref03_Decode.j5 k x0 (strOfNums acc) (strOfNums t) (strOfNums e)) R := by
  have j6f : t.getLast? ≠ some 61 → Ev (fun k => letterboxref03_Decode.j6 k x0 (strOfNums acc) (strOfNums t) (strOfNums e) false) R := by
    intro hs
    have e1 : soft t e = (t, e) := by unfold soft; rw [if_neg hs]
    rw [e1] at h hn
    refine st (fun k => by rw [letterboxref03_Decode.j6]) ?_
    refine no (by simp) (bnd (ref_text t ht htl) ?_)
    cases hp : readS t with
    | none => exact no (by simp [toldS]) (fin (hn hp).symm)
    | some p =>
      have hpl := readS_len t.length t p (Nat.le_refl _) hp
      rw [toldS_some]
      dsimp only
      simp only [str_append, strOfNums_size]
      exact yes trivial (yes (by omega) (yes (by rw [List.length_append]; omega) (h p hp)))
  refine st (fun k => by rw [letterboxref03_Decode.j5]) ?_
  rcases snoc_or t with rfl | ⟨m, c, rfl⟩
  · exact no (by decide) (j6f (by simp))
  · have hlen : (m ++ [c]).length = m.length + 1 := by simp
    have e1 : wrap64 (((m ++ [c]).length : Int) - 1) = (m.length : Int) := by rw [w64 (by omega) (by omega)]; omega
    simp only [strOfNums_size, e1, str_bt _ ht, rd_last]
    refine yes (by omega) (yes (by omega) (yes (by omega) ?_))
    by_cases h61 : c = 61
    · rw [show (c == 61) = true from beq_iff_eq.2 h61]
      rw [soft_snoc, if_pos h61] at h hn
      refine st (fun k => by rw [letterboxref03_Decode.j6]) ?_
      simp only [strOfNums_size, e1, str_extract, Int.toNat_natCast, List.drop_zero]
      have hm : (m ++ [c]).take m.length = m := by simp
      rw [hm]
      refine yes trivial (yes (by omega) (yes (by omega) (bnd (ref_text m (byte_left ht) (by omega)) ?_)))
      cases hp : readS m with
      | none => exact no (by simp [toldS]) (fin (hn hp).symm)
      | some p =>
        have hpl := readS_len m.length m p (Nat.le_refl _) hp
        rw [toldS_some]
        dsimp only
        rw [← str_nil]
        simp only [str_append, strOfNums_size]
        exact yes trivial (yes (by omega) (yes (by rw [List.length_append, List.length_nil]; omega) (h p hp)))
    · rw [show (c == 61) = false from beq_eq_false_iff_ne.2 h61]
      exact j6f (by simpa using h61)
theorem end_none (b : List Int) (h : idx b 0 = b.length) : (b.take (nextP b (idx b 0))).drop (toP b (idx b 0)) = [] ∧ b.drop (nextP b (idx b 0)) = [] ∧ toP b (idx b 0) = b.length := by
  have h1 : nextP b b.length = b.length := by unfold nextP; omega
  have h2 : toP b b.length = b.length := by unfold toP; rw [if_neg (by omega)]
  rw [h, h1, h2]; simp
theorem ref_j3 (x0 x4 : ByteArray) (l : List Int) (x7 : ByteArray) (R : ByteArray × Bool) (hl : l.length ≤ 100000) (hb : byte l) (h : Ev (fun k => letterboxref03_Decode.j5 k x0 x4 (strOfNums (trimR l)) x7) R) :
    Ev (fun k => letterboxref03_Decode.j3 k x4 (strOfNums l) x7 x0) R := by
  refine st (fun k => by rw [letterboxref03_Decode.j3]) ?_
  exact ref_l2 x0 x4 x7 R l.length l (Nat.le_refl _) hl hb h
theorem take_drop_two (b : List Int) (k : Nat) (hk : k < b.length) (h0 : 0 < k) : (b.take (k + 1)).drop (k - 1) = [rd b ((k - 1 : Nat) : Int), rd b (k : Int)] := by
  rw [List.drop_take, drop_rd b (k - 1) (by omega), show k - 1 + 1 = k by omega, drop_rd b k hk, show k + 1 - (k - 1) = 2 by omega]; simp
theorem take_drop_one (b : List Int) (k : Nat) (hk : k < b.length) : (b.take (k + 1)).drop k = [rd b (k : Int)] := by
  rw [List.drop_take, drop_rd b k hk, show k + 1 - k = 1 by omega]; simp
theorem ref_j2 (b : List Int) (hb : byte b) (hl : b.length ≤ 100000) (x4 : ByteArray) (R : ByteArray × Bool) (k : Nat) (hk : k ≤ b.length) (h10 : k < b.length → rd b (k : Int) = 10)
    (h : Ev (fun f => letterboxref03_Decode.j5 f (strOfNums (b.drop (nextP b k))) x4 (strOfNums (trimR (b.take (toP b k)))) (strOfNums ((b.take (nextP b k)).drop (toP b k)))) R) :
    Ev (fun f => letterboxref03_Decode.j2 f (strOfNums b) x4 (k : Int)) R := by
  refine st (fun f => by rw [letterboxref03_Decode.j2]) ?_
  simp only [strOfNums_size, str_bt b hb, str_extract, Int.toNat_natCast, List.drop_zero]
  refine yes (by omega) (yes (by omega) ?_)
  by_cases hlt : k < b.length
  · have hn : nextP b k = k + 1 := by unfold nextP; omega
    have e1 : wrap64 ((k : Int) + 1) = ((k + 1 : Nat) : Int) := by rw [w64 (by omega) (by omega)]; omega
    rw [hn] at h
    have hd : (b.take b.length).drop (k + 1) = b.drop (k + 1) := by rw [List.take_length]
    simp only [e1, Int.toNat_natCast, hd]
    refine yes (by omega) (yes (by omega) (yes (by omega) ?_))
    by_cases h0 : 0 < k
    · have e2 : wrap64 ((k : Int) - 1) = ((k - 1 : Nat) : Int) := by rw [w64 (by omega) (by omega)]; omega
      simp only [e2, Int.toNat_natCast]
      refine yes (by omega) (yes (by omega) (yes (by omega) ?_))
      by_cases h13 : rd b ((k - 1 : Nat) : Int) = 13
      · have ht : toP b k = k - 1 := by unfold toP; rw [if_pos ⟨hlt, h0, h13⟩]
        rw [ht, take_drop_two b k hlt h0, h13, h10 hlt] at h
        exact yes h13 (yes (by omega) (ref_j3 _ _ _ _ _ (by simp; omega) (byte_take hb _) h))
      · have ht : toP b k = k := by unfold toP; rw [if_neg (fun z => h13 z.2.2)]
        rw [ht, take_drop_one b k hlt, h10 hlt] at h
        exact no h13 (ref_j3 _ _ _ _ _ (by simp; omega) (byte_take hb _) h)
    · have ht : toP b k = k := by unfold toP; rw [if_neg (fun z => h0 z.2.1)]
      rw [ht, take_drop_one b k hlt, h10 hlt] at h
      exact no (by omega) (ref_j3 _ _ _ _ _ (by simp; omega) (byte_take hb _) h)
  · have hk2 : k = b.length := by omega
    have h1 : nextP b k = b.length := by unfold nextP; omega
    have h2 : toP b k = b.length := by unfold toP; rw [if_neg (by omega)]; exact hk2
    rw [h1, h2, List.take_length, List.drop_length] at h
    refine no (by omega) ?_
    refine ref_j3 _ _ _ _ _ (by simp; omega) (byte_take hb _) ?_
    rw [hk2, List.take_length]
    exact h
theorem ref_l1 (b : List Int) (hb : byte b) (hl : b.length ≤ 100000) (x4 : ByteArray) (R : ByteArray × Bool) (d : Nat) : ∀ i : Nat, b.length - i ≤ d → i ≤ b.length →
    Ev (fun f => letterboxref03_Decode.j2 f (strOfNums b) x4 (idx b i : Nat)) R → Ev (fun f => letterboxref03_Decode.l1 f (strOfNums b) x4 (i : Int)) R := by
  induction d with
  | zero =>
    intro i hd hi h
    rw [idx_end b i (by omega)] at h
    refine st (fun f => by rw [letterboxref03_Decode.l1]) ?_
    exact no (by rw [strOfNums_size]; omega) h
  | succ d ih =>
    intro i hd hi h
    refine st (fun f => by rw [letterboxref03_Decode.l1]) ?_
    simp only [strOfNums_size, str_bt b hb]
    by_cases hlt : i < b.length
    · refine yes (by omega) (yes (by omega) ?_)
      by_cases h10 : rd b (i : Int) = 10
      · rw [idx_at b i hlt h10] at h
        exact yes h10 h
      · rw [idx_on b i hlt h10] at h
        refine no h10 ?_
        simp only [w64 (x := (i : Int) + 1) (by omega) (by omega)]
        exact ih (i + 1) (by omega) (by omega) h
    · rw [idx_end b i (by omega)] at h
      exact no (by omega) h
theorem rdec_l0 (n : Nat) : ∀ (b acc : List Int), b.length ≤ n → n ≤ 100000 → acc.length + b.length ≤ 200000 → byte b → Ev (fun k => letterboxref03_Decode.l0 k (strOfNums b) (strOfNums acc)) (toldB acc (decS b)) := by
  induction n with
  | zero =>
    intro b acc hb _ _ _
    have : b = [] := List.eq_nil_of_length_eq_zero (by omega)
    subst this
    rw [decS_nil]
    refine st (fun k => by rw [letterboxref03_Decode.l0]) ?_
    exact yes ((str_toList_nil []).2 rfl) (fin (by simp [toldB]))
  | succ n ih =>
    intro b acc hb hn ha hx
    refine st (fun k => by rw [letterboxref03_Decode.l0]) ?_
    by_cases h0 : b = []
    · subst h0
      rw [decS_nil]
      exact yes ((str_toList_nil []).2 rfl) (fin (by simp [toldB]))
    · refine no (fun h => h0 ((str_toList_nil b).1 h)) ?_
      have hll := line_len b
      have hr := next_pos b h0 (idx b 0)
      refine ref_l1 b hx (by omega) _ _ b.length 0 (by omega) (by omega) (ref_j2 b hx (by omega) _ _ _ (idx_le b 0 (by omega)) (idx_10 b b.length 0 (by omega) (by omega)) ?_)
      rw [decS_cons b h0]
      have hL : lineS b = (trimR (b.take (toP b (idx b 0))), (b.take (nextP b (idx b 0))).drop (toP b (idx b 0)), b.drop (nextP b (idx b 0))) := rfl
      have hlb := line_bytes hx
      rw [hL] at hll hlb ⊢
      dsimp only at hll hlb ⊢
      refine ref_j5 _ acc _ _ hlb.1 (by omega) (by omega) _ (fun hp => by rw [hp]; rfl) (fun p hp => ?_)
      rw [hp]
      have hs1 : (soft (trimR (b.take (toP b (idx b 0)))) ((b.take (nextP b (idx b 0))).drop (toP b (idx b 0)))).1.length ≤ (trimR (b.take (toP b (idx b 0)))).length ∧ (soft (trimR (b.take (toP b (idx b 0)))) ((b.take (nextP b (idx b 0))).drop (toP b (idx b 0)))).2.length ≤ ((b.take (nextP b (idx b 0))).drop (toP b (idx b 0))).length := by
        unfold soft; split <;> simp
      have hpl := readS_len _ _ p (Nat.le_refl _) hp
      have go := ih (b.drop (nextP b (idx b 0))) (acc ++ (p ++ (soft (trimR (b.take (toP b (idx b 0)))) ((b.take (nextP b (idx b 0))).drop (toP b (idx b 0)))).2)) (by omega) (by omega) (by rw [List.length_append, List.length_append]; omega) (byte_drop hx _)
      refine toE go ?_
      cases decS (b.drop (nextP b (idx b 0))) <;> simp [toldB]
theorem rdec_eq (b : List Int) (hb : b.length ≤ 100000) (hx : byte b) : Ev (fun k => letterboxref03_Decode.f k (strOfNums b)) (toldB [] (decS b)) :=
  rdec_l0 b.length b [] (Nat.le_refl _) hb (by simp; omega) hx
end Go.Proofs.Ytcnbkblnchechaa.Qp
