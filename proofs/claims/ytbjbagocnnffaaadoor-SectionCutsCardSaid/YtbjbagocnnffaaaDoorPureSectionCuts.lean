/- The law SectionCuts holds: how many bytes, from which on, is told just if both numbers may be; what is put of it is the text again. -/
import Derived.Test.YtbjbagocnnffaaaDoorSec12
import Derived.Test.YtbjbagocnnffaaaDoorPx9
set_option linter.unusedVariables false
namespace Go.Proofs.YtbjbagocnnffaaaDoor.Pure
open Go.RowKit Go.Proofs.YtbjbagocnnffaaaDoor.P Go.Proofs.YtbjbagocnnffaaaDoorW.PrintWords Go.Proofs.YtbjbagocnnffaaaDoorW.PrintLast Go.Proofs.YtbjbagocnnffaaaDoor.Aids Go.Proofs.YtbjbagocnnffaaaDoor.Chars Go.Proofs.YtbjbagocnnffaaaDoor.Sec
def cutsT (f m : Int) : List Int := 91 :: 93 :: 60 :: (digits f ++ 46 :: (digits m ++ [62]))
theorem digs_in : ∀ (d m : Nat), ∀ c ∈ digs d m, 48 ≤ c ∧ c ≤ 57
  | 0, m => fun c hc => by cases hc
  | d + 1, m => by
    intro c hc
    rw [digs] at hc
    split at hc
    · cases hc
    · rcases List.mem_append.1 hc with hc | hc
      · exact digs_in d _ c hc
      · rw [List.mem_singleton.1 hc]; omega
theorem digits_in {n : Int} (h : 0 ≤ n) : ∀ c ∈ digits n, 48 ≤ c ∧ c ≤ 57 := by
  intro c hc
  unfold digits at hc
  split at hc
  · rw [List.mem_singleton.1 hc]; omega
  · rw [if_neg (by omega)] at hc; exact digs_in _ _ c hc
theorem digits_some {n : Int} (h : 0 ≤ n) (h2 : n ≤ 9223372036854775807) : 1 ≤ (digits n).length := by
  unfold digits
  split
  · decide
  · rw [if_neg (by omega)]; exact (digs_head 20 n.toNat (by omega) (by omega)).1
theorem cuts_is {f m : Int} (hf : 0 ≤ f ∧ f ≤ 9999999999) (hm : 0 ≤ m ∧ m ≤ 9999999999) : rparseL (cutsT f m) = if f ≤ 4294967295 ∧ m ≤ 4294967295 then some ⟨[], 0, [], true, f, m⟩ else none := by
  have nf := number_digits f (by omega) (by omega)
  have nm := number_digits m (by omega) (by omega)
  have lf := digits_some hf.1 (by omega)
  have lm := digits_some hm.1 (by omega)
  have C93 : ∀ c ∈ (60 :: (digits f ++ 46 :: (digits m ++ [62]))), c ≠ 93 := by
    intro c hc
    rcases List.mem_cons.1 hc with rfl | hc
    · decide
    · rcases List.mem_append.1 hc with hc | hc
      · have := digits_in hf.1 c hc; omega
      · rcases List.mem_cons.1 hc with rfl | hc
        · decide
        · rcases List.mem_append.1 hc with hc | hc
          · have := digits_in hm.1 c hc; omega
          · rw [List.mem_singleton.1 hc]; decide
  have hL := lastL_of C93 [91]
  unfold rparseL cutsT
  rw [if_neg (fun e => e.elim (fun e => by cases e) (fun e => e rfl))]
  rw [show [91] ++ 93 :: 60 :: (digits f ++ 46 :: (digits m ++ [62])) = 91 :: 93 :: 60 :: (digits f ++ 46 :: (digits m ++ [62])) from rfl] at hL
  rw [hL]
  simp only
  have el : (60 :: (digits f ++ 46 :: (digits m ++ [62]))).length = (digits f).length + (digits m).length + 3 := by simp; omega
  have e0 : 60 :: (digits f ++ 46 :: (digits m ++ [62])) = 60 :: ((digits f ++ 46 :: digits m) ++ [62]) := by simp
  have hto : tailOk (60 :: (digits f ++ 46 :: (digits m ++ [62]))) := by
    refine .inr ⟨by omega, rfl, ?_⟩
    rw [el, e0, show 60 :: ((digits f ++ 46 :: digits m) ++ [62]) = (60 :: (digits f ++ 46 :: digits m)) ++ [62] from rfl]
    exact last_at _ _ _ (by simp; omega)
  rw [if_pos hto]
  show rinL [] _ = _
  unfold rinL
  rw [show headL 32 ([] : List Int) = ([], [], false) from rfl]
  simp only
  rw [show rwhatL (([] : List Int).length + 1) [] [] = some ([], 0) from rfl]
  simp only
  rw [if_neg (by decide)]
  unfold rcutL
  have e1 : ((60 :: (digits f ++ 46 :: (digits m ++ [62]))).take ((60 :: (digits f ++ 46 :: (digits m ++ [62]))).length - 1)).drop 1 = digits f ++ 46 :: digits m := by
    rw [el, e0]; exact mid 60 _ 62 _ (by simp; omega)
  have h46 : ∀ c ∈ digits f, c ≠ 46 := fun c hc => by have := digits_in hf.1 c hc; omega
  rw [if_neg (by simp), e1, headL_yes h46]
  simp only
  by_cases c1 : f ≤ 4294967295
  · rw [if_pos ⟨hf.1, c1⟩] at nf
    by_cases c2 : m ≤ 4294967295
    · rw [if_pos ⟨hm.1, c2⟩] at nm
      rw [nf, nm, if_pos ⟨trivial, rfl, rfl⟩, if_pos ⟨c1, c2⟩]
    · rw [if_neg (show ¬ (0 ≤ m ∧ m ≤ 4294967295) from fun e => c2 e.2)] at nm
      rw [nf, nm, if_neg (fun e => by cases e.2.2), if_neg (show ¬ (f ≤ 4294967295 ∧ m ≤ 4294967295) from fun e => c2 e.2)]
  · rw [if_neg (show ¬ (0 ≤ f ∧ f ≤ 4294967295) from fun e => c1 e.2)] at nf
    rw [nf, if_neg (fun e => by cases e.2.1), if_neg (show ¬ (f ≤ 4294967295 ∧ m ≤ 4294967295) from fun e => c1 e.1)]
theorem cuts_out {f m : Int} (hf : 0 ≤ f ∧ f ≤ 9999999999) (hm : 0 ≤ m ∧ m ≤ 9999999999) : outL (parseL (cutsT f m)) = if f ≤ 4294967295 ∧ 1 ≤ m ∧ m ≤ 4294967295 then ([], 0, [], true, f, m, 0) else sec_none := by
  rw [out_same, cuts_is hf hm]
  by_cases c : f ≤ 4294967295 ∧ m ≤ 4294967295
  · rw [if_pos c]
    show (if may ⟨[], 0, [], true, f, m⟩ = true then _ else _) = _
    have e : may ⟨[], 0, [], true, f, m⟩ = decide (1 ≤ m) := by
      rw [may_is]
      unfold headB cutB within listed
      simp [hf.1, c.1, c.2]
    rw [e]
    by_cases c1 : 1 ≤ m
    · rw [if_pos (by simpa using c1), if_pos ⟨c.1, c1, c.2⟩]; rfl
    · rw [if_neg (by simpa using c1), if_neg (fun h => c1 h.2.1)]
  · rw [if_neg c, if_neg (fun h => c ⟨h.1, h.2.2⟩)]; rfl
theorem SectionCuts : letterboxlaw15_SectionCuts.Pure := by
  intro a0 a1 h0 h1
  refine Ev.rounds ?_
  have u64 : ∀ {x : Int}, (Lit.int .u64 x).wf = true → 0 ≤ x ∧ x ≤ 18446744073709551615 := fun h => by
    simp [Lit.wf, IntKind.min, IntKind.max, IntKind.signed, IntKind.bits] at h; omega
  have b0 := u64 h0
  have b1 := u64 h1
  have e0 : wrap64 (Int.tmod a0 9999999999) = a0 % 9999999999 := by rw [tmod_pos b0.1, w64 (by omega) (by omega)]
  have e1 : wrap64 (Int.tmod a1 9999999999) = a1 % 9999999999 := by rw [tmod_pos b1.1, w64 (by omega) (by omega)]
  unfold letterboxlaw15_SectionCuts.f
  simp only [e0, e1]
  clear e0 e1
  have hf : 0 ≤ a0 % 9999999999 ∧ a0 % 9999999999 ≤ 9999999999 := by omega
  have hm : 0 ≤ a1 % 9999999999 ∧ a1 % 9999999999 ≤ 9999999999 := by omega
  generalize a0 % 9999999999 = f at hf ⊢
  generalize a1 % 9999999999 = m at hm ⊢
  clear h0 h1 b0 b1 u64
  have lf := digits_len f
  have lm := digits_len m
  refine bnd awake (yes rfl (bnd (rdigitsS f (by omega) (by omega)) ?_))
  simp only [show (⟨#[91, 93, 60]⟩ : ByteArray) = strOfNums [91, 93, 60] from rfl, show (⟨#[46]⟩ : ByteArray) = strOfNums [46] from rfl, show (⟨#[62]⟩ : ByteArray) = strOfNums [62] from rfl, str_append, strOfNums_size]
  refine yes (by omega) (yes (by simp; omega) (bnd (rdigitsS m (by omega) (by omega)) ?_))
  simp only [str_append, strOfNums_size]
  refine yes (by simp; omega) (yes (by simp; omega) ?_)
  have et : [91, 93, 60] ++ digits f ++ [46] ++ digits m ++ [62] = cutsT f m := by unfold cutsT; simp
  rw [et]
  have hb : byte (cutsT f m) := byte_cons (by omega) (byte_cons (by omega) (byte_cons (by omega) (byte_append (digits_byte _) (byte_cons (by omega) (byte_append (digits_byte _) (byte_one (by omega) (by omega)))))))
  have hl : (cutsT f m).length ≤ 90000 := by unfold cutsT; simp; omega
  have hp := parse_ok hb hl
  rw [cuts_out hf hm] at hp
  refine bnd hp ?_
  clear hp
  by_cases c1 : f ≤ 4294967295
  · refine yes c1 ?_
    by_cases c2 : m ≥ 1
    · refine yes c2 ?_
      by_cases c3 : m ≤ 4294967295
      · rw [if_pos ⟨c1, c2, c3⟩]
        refine yes (by simp [c3]) (yes c3 (yes rfl (yes rfl (yes rfl ?_))))
        have hput := put_ok ⟨[], 0, [], true, f, m⟩ (fun n hn => by cases hn) (fun n hn => by cases hn) (by simp) (by simp) false
        have e : may ⟨[], 0, [], true, f, m⟩ = true := by
          rw [may_is]
          unfold headB cutB within listed
          simp [hf.1, c1, c2, c3]
        rw [if_pos e] at hput
        refine bnd hput (fin ?_)
        rw [show putL ⟨[], 0, [], true, f, m⟩ false = cutsT f m from ?_]
        · simp
        · unfold putL pathT namesT cutT cutsT
          simp [joinL, listed]
      · have hn : (if f ≤ 4294967295 ∧ 1 ≤ m ∧ m ≤ 4294967295 then (([], 0, [], true, f, m, 0) : SecT) else sec_none) = sec_none := if_neg (fun h => c3 h.2.2)
        rw [hn]
        exact yes (by rw [decide_eq_false c3]; decide) (no c3 (fin rfl))
    · refine no c2 ?_
      have hn : (if f ≤ 4294967295 ∧ 1 ≤ m ∧ m ≤ 4294967295 then (([], 0, [], true, f, m, 0) : SecT) else sec_none) = sec_none := if_neg (fun h => c2 h.2.1)
      rw [hn]
      exact yes (by decide) (fin rfl)
  · refine no c1 ?_
    have hn : (if f ≤ 4294967295 ∧ 1 ≤ m ∧ m ≤ 4294967295 then (([], 0, [], true, f, m, 0) : SecT) else sec_none) = sec_none := if_neg (fun h => c1 h.1)
    rw [hn]
    exact yes (by decide) (fin rfl)
end Go.Proofs.YtbjbagocnnffaaaDoor.Pure
