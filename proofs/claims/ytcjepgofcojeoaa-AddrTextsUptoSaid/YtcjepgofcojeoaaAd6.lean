/- The document's texts of addresses, said of lists. -/
import Derived.Test.YtcjepgofcojeoaaAd5
import Derived.Test.YtcjepgofcojeoaaPx7
set_option linter.unusedVariables false
set_option linter.unusedSimpArgs false
set_option linter.unusedSectionVars false
namespace Go.Proofs.Ytcjepgofcojeoaa.Ad
open Go.RowKit Go.Proofs.Ytcjepgofcojeoaa.P Go.Proofs.YtcjepgofcojeoaaW.PrintWords Go.Proofs.YtcjepgofcojeoaaW.PrintLast Go.Proofs.Ytcjepgofcojeoaa.Aids
theorem rquoted_l0 {s : List Int} (hb : byte s) (hl : s.length ≤ 1100000) (d : Nat) : ∀ (i : Nat) (acc : List Int), s.length - i ≤ d → i ≤ s.length → acc.length ≤ 2 * i + 1 →
    Ev (fun k => letterboxref07_Quoted.l0 k (strOfNums s) (strOfNums acc) (i : Int)) (strOfNums (acc ++ (esc (s.drop i) ++ [34]))) := by
  have stop : ∀ (i : Nat) (acc : List Int), s.length ≤ i → i ≤ s.length → acc.length ≤ 2 * i + 1 → Ev (fun k => letterboxref07_Quoted.l0 k (strOfNums s) (strOfNums acc) (i : Int)) (strOfNums (acc ++ (esc (s.drop i) ++ [34]))) := by
    intro i acc h1 h2 ha
    refine st (fun k => by rw [letterboxref07_Quoted.l0]) ?_
    rw [List.drop_eq_nil_of_le h1, show (⟨#[34]⟩ : ByteArray) = strOfNums [34] from rfl]
    simp only [strOfNums_size, str_append]
    exact no (by omega) (yes (by omega) (fin rfl))
  induction d with
  | zero => intro i acc hd hi ha; exact stop i acc (by omega) hi ha
  | succ d ih =>
    intro i acc hd hi ha
    rcases Nat.lt_or_ge i s.length with hlt | hge
    · have e1 := wr1 (i := i) (by omega)
      have hcut : (s.take (i + 1)).drop i = [rd s (i : Int)] := by
        rw [List.take_succ_eq_append_getElem hlt, List.drop_append_of_le_length (by rw [List.length_take]; omega), List.drop_eq_nil_of_le (by rw [List.length_take]; omega), rd_at s i hlt]; rfl
      refine st (fun k => by rw [letterboxref07_Quoted.l0]) ?_
      rw [drop_rd s i hlt, show (⟨#[92]⟩ : ByteArray) = strOfNums [92] from rfl]
      simp only [strOfNums_size, str_bt _ hb, e1, esc, str_extract, Int.toNat_natCast, hcut, str_append]
      clear e1
      refine yes (by omega) (yes (by omega) ?_)
      by_cases h1 : rd s (i : Int) = 34
      · rw [if_pos (.inl h1)]
        refine yes h1 (yes (by omega) (yes (by omega) (yes (by omega) (yes (by simp; omega) (toE (ih (i + 1) _ (by omega) hlt (by simp; omega)) ?_)))))
        congr 1; simp
      · refine no h1 ?_
        by_cases h2 : rd s (i : Int) = 92
        · rw [if_pos (.inr h2)]
          refine yes h2 (yes (by omega) (yes (by omega) (yes (by omega) (yes (by simp; omega) (toE (ih (i + 1) _ (by omega) hlt (by simp; omega)) ?_)))))
          congr 1; simp
        · rw [if_neg (fun e => e.elim h1 h2)]
          refine no h2 (yes (by omega) (yes (by omega) (yes (by simp; omega) (toE (ih (i + 1) _ (by omega) hlt (by simp; omega)) ?_))))
          congr 1; simp
    · exact stop i acc hge hi ha
theorem rquoted {s : List Int} (hb : byte s) (hl : s.length ≤ 1100000) : Ev (fun k => letterboxref07_Quoted.f k (strOfNums s)) (strOfNums (quoL s)) := by
  unfold letterboxref07_Quoted.f
  exact rquoted_l0 hb hl s.length 0 [34] (by omega) (by omega) (by simp)
def cv (a : S27) : S33 := ⟨a.f0, a.f1, a.f2, a.f3⟩
theorem rd33 (l : List S27) (i : Nat) (h : i < l.length) : rd_T33 (l.map cv) (i : Int) = cv l[i] := by
  unfold rd_T33
  rw [Int.toNat_natCast, List.getD_eq_getElem?_getD, List.getElem?_eq_getElem (by rw [List.length_map]; exact h), List.getElem_map]; rfl
def prevL (l : List S27) (i : Nat) : Option Int := if h : 0 < i ∧ i ≤ l.length then some (l[i - 1]'(by omega)).f0 else none
section
variable (l : List S27) (hf : ∀ a ∈ l, fits a) (hl : l.length ≤ 1000)
include hf hl
theorem rtext_j3 (i : Nat) (hi : i < l.length) (acc : List Int) (ha : acc.length ≤ 300000000000) (V : List Int)
    (next : ∀ acc' : List Int, acc'.length ≤ acc.length + 7000000 → Ev (fun k => letterboxref10_Text.l0 k (l.map cv) (strOfNums acc') ((i + 1 : Nat) : Int)) (strOfNums (acc' ++ V))) :
    Ev (fun k => letterboxref10_Text.j3 k (l.map cv) (strOfNums acc) (i : Int)) (strOfNums (acc ++ ((if l[i].f0 = 1 then quoL (bytesOf l[i].f1) ++ [58] else if l[i].f0 = 2 then [59] else []) ++ V))) := by
  have e1 := wr1 (i := i) (by omega)
  have hfa := hf _ (List.getElem_mem hi)
  unfold fits at hfa
  have q1 := quoL_len (bytesOf l[i].f1)
  rw [size_bytes] at q1
  have hq := rquoted (byte_bytes l[i].f1) (by rw [size_bytes]; exact hfa.1)
  rw [str_bytes] at hq
  refine st (fun k => by rw [letterboxref10_Text.j3]) ?_
  rw [rd33 l i hi, show (⟨#[58]⟩ : ByteArray) = strOfNums [58] from rfl, show (⟨#[59]⟩ : ByteArray) = strOfNums [59] from rfl]
  simp only [e1, List.length_map, cv]
  clear e1
  refine yes (by omega) (yes (by omega) ?_)
  by_cases c1 : l[i].f0 = 1
  · refine yes c1 (bnd hq ?_)
    simp only [str_append, strOfNums_size]
    refine yes (by omega) (yes (by simp; omega) (no (by rw [c1]; decide) ?_))
    refine toE (next _ (by simp; omega)) ?_
    rw [if_pos c1]; congr 1; simp
  · refine no c1 ?_
    by_cases c2 : l[i].f0 = 2
    · refine yes c2 ?_
      simp only [str_append, strOfNums_size]
      refine yes (by omega) ?_
      refine toE (next _ (by simp)) ?_
      rw [if_neg c1, if_pos c2]; congr 1; simp
    · refine no c2 ?_
      refine toE (next _ (by omega)) ?_
      rw [if_neg c1, if_neg c2]; rfl
theorem rtext_j2 (i : Nat) (hi : i < l.length) (acc : List Int) (ha : acc.length ≤ 200000000000) (V : List Int)
    (next : ∀ acc' : List Int, acc'.length ≤ acc.length + 14000000 → Ev (fun k => letterboxref10_Text.l0 k (l.map cv) (strOfNums acc') ((i + 1 : Nat) : Int)) (strOfNums (acc' ++ V))) :
    Ev (fun k => letterboxref10_Text.j2 k (l.map cv) (strOfNums acc) (i : Int)) (strOfNums (acc ++ (adT l[i] ++ V))) := by
  have hfa := hf _ (List.getElem_mem hi)
  unfold fits at hfa
  have q1 := quoL_len (bytesOf l[i].f1)
  have q2 := quoL_len (bytesOf l[i].f2)
  rw [size_bytes] at q1 q2
  have hq := rquoted (byte_bytes l[i].f1) (by rw [size_bytes]; exact hfa.1)
  have hq2 := rquoted (byte_bytes l[i].f2) (by rw [size_bytes]; exact hfa.2.1)
  rw [str_bytes] at hq hq2
  have n1 : (l[i].f1).toList = ([] : List UInt8) ↔ bytesOf l[i].f1 = [] := toList_nil
  have n3 : (l[i].f3).toList = ([] : List UInt8) ↔ bytesOf l[i].f3 = [] := toList_nil
  have e3 : l[i].f3 = strOfNums (bytesOf l[i].f3) := (str_bytes _).symm
  have z3 : (bytesOf l[i].f3).length = l[i].f3.size := size_bytes _
  have J3 := fun (acc1 : List Int) (h1 : acc1.length ≤ acc.length + 7000000) => rtext_j3 l hf hl i hi acc1 (by omega) V (fun acc' h => next acc' (by omega))
  refine st (fun k => by rw [letterboxref10_Text.j2]) ?_
  rw [rd33 l i hi, show (⟨#[60]⟩ : ByteArray) = strOfNums [60] from rfl, show (⟨#[62]⟩ : ByteArray) = strOfNums [62] from rfl, show (⟨#[64]⟩ : ByteArray) = strOfNums [64] from rfl, show (⟨#[32]⟩ : ByteArray) = strOfNums [32] from rfl]
  simp only [List.length_map, cv]
  refine yes (by omega) (yes (by omega) ?_)
  by_cases c0 : l[i].f0 = 0
  · refine yes c0 ?_
    have hadT : adT l[i] = (if bytesOf l[i].f1 = [] then [] else quoL (bytesOf l[i].f1) ++ [32]) ++ (60 :: quoL (bytesOf l[i].f2)) ++ (if bytesOf l[i].f3 = [] then [] else 64 :: bytesOf l[i].f3) ++ [62] := by
      unfold adT adL; rw [if_pos c0]
    have hno : (if l[i].f0 = 1 then quoL (bytesOf l[i].f1) ++ [58] else if l[i].f0 = 2 then [59] else ([] : List Int)) = [] := by rw [if_neg (by rw [c0]; decide), if_neg (by rw [c0]; decide)]
    rw [hno] at J3
    rw [hadT]
    by_cases c1 : bytesOf l[i].f1 = []
    · refine yes (n1.2 c1) (bnd hq2 ?_)
      simp only [str_append, strOfNums_size]
      refine yes (by omega) (yes (by simp; omega) ?_)
      by_cases c3 : bytesOf l[i].f3 = []
      · refine yes (n3.2 c3) (yes (by simp; omega) (toE (J3 _ (by simp; omega)) ?_))
        rw [if_pos c1, if_pos c3]; congr 1; simp
      · refine no (fun e => c3 (n3.1 e)) ?_
        rw [e3]
        simp only [str_append, strOfNums_size]
        refine yes (by omega) (yes (by simp; omega) (yes (by simp; omega) (toE (J3 _ (by simp; omega)) ?_)))
        rw [str_bytes, if_pos c1, if_neg c3]; congr 1; simp
    · refine no (fun e => c1 (n1.1 e)) (bnd hq ?_)
      simp only [str_append, strOfNums_size]
      refine yes (by omega) (yes (by simp; omega) (bnd hq2 ?_))
      simp only [str_append, strOfNums_size]
      refine yes (by omega) (yes (by simp; omega) ?_)
      by_cases c3 : bytesOf l[i].f3 = []
      · refine yes (n3.2 c3) (yes (by simp; omega) (toE (J3 _ (by simp; omega)) ?_))
        rw [if_neg c1, if_pos c3]; congr 1; simp
      · refine no (fun e => c3 (n3.1 e)) ?_
        rw [e3]
        simp only [str_append, strOfNums_size]
        refine yes (by omega) (yes (by simp; omega) (yes (by simp; omega) (toE (J3 _ (by simp; omega)) ?_)))
        rw [str_bytes, if_neg c1, if_neg c3]; congr 1; simp
  · refine no c0 (toE (J3 acc (by omega)) ?_)
    unfold adT adL
    rw [if_neg c0]
theorem rtext_l0 (m : Nat) : ∀ (i : Nat) (acc : List Int), l.length - i ≤ m → i ≤ l.length → acc.length ≤ i * 15000000 → Ev (fun k => letterboxref10_Text.l0 k (l.map cv) (strOfNums acc) (i : Int)) (strOfNums (acc ++ textL (prevL l i) (l.drop i))) := by
  have stop : ∀ acc : List Int, Ev (fun k => letterboxref10_Text.l0 k (l.map cv) (strOfNums acc) (l.length : Int)) (strOfNums (acc ++ textL (prevL l l.length) (l.drop l.length))) := by
    intro acc
    rw [List.drop_length, textL, List.append_nil]
    refine st (fun k => by rw [letterboxref10_Text.l0]) ?_
    simp only [List.length_map]
    exact no (by omega) (fin rfl)
  induction m with
  | zero =>
    intro i acc h1 h2 h3
    obtain rfl : i = l.length := by omega
    exact stop acc
  | succ m ih =>
    intro i acc h1 h2 h3
    rcases Nat.lt_or_ge i l.length with hlt | hge
    · have hmul : (i + 1) * 15000000 = i * 15000000 + 15000000 := by rw [Nat.add_mul, Nat.one_mul]
      have hbig : i * 15000000 ≤ 1000 * 15000000 := Nat.mul_le_mul_right _ (by omega)
      have hprev : prevL l (i + 1) = some l[i].f0 := by
        unfold prevL
        rw [dif_pos ⟨by omega, by omega⟩]
        rfl
      have hV : ∀ acc' : List Int, acc'.length ≤ acc.length + 2 + 14000000 → Ev (fun k => letterboxref10_Text.l0 k (l.map cv) (strOfNums acc') ((i + 1 : Nat) : Int)) (strOfNums (acc' ++ textL (some l[i].f0) (l.drop (i + 1)))) := by
        intro acc' h
        have := ih (i + 1) acc' (by omega) hlt (by omega)
        rw [hprev] at this
        exact this
      have J1 : ∀ b : Bool, b = sepP (prevL l i) l[i].f0 → Ev (fun k => letterboxref10_Text.j1 k (l.map cv) (strOfNums acc) (i : Int) b) (strOfNums (acc ++ textL (prevL l i) (l.drop i))) := by
        intro b hbb
        rw [List.drop_eq_getElem_cons hlt, textL, ← hbb]
        refine st (fun k => by rw [letterboxref10_Text.j1]) ?_
        rw [show (⟨#[44, 32]⟩ : ByteArray) = strOfNums [44, 32] from rfl]
        simp only [str_append, strOfNums_size]
        have hle2 : ∀ acc' : List Int, acc'.length ≤ (acc ++ [44, 32]).length + 14000000 → acc'.length ≤ acc.length + 2 + 14000000 := fun acc' h => by
          have e : (acc ++ [44, 32]).length = acc.length + 2 := List.length_append
          rw [← e]; exact h
        cases b with
        | true =>
          refine yes rfl (yes (by omega) (toE (rtext_j2 l hf hl i hlt (acc ++ [44, 32]) (by rw [List.length_append, show ([44, 32] : List Int).length = 2 from rfl]; omega) _ (fun acc' h => hV acc' (hle2 acc' h))) ?_))
          congr 1; simp
        | false =>
          refine no (by decide) (toE (rtext_j2 l hf hl i hlt acc (by omega) _ (fun acc' h => hV acc' (by omega))) ?_)
          rw [if_neg (show ¬ (false = true) by decide), List.nil_append]
      refine st (fun k => by rw [letterboxref10_Text.l0]) ?_
      simp only [List.length_map]
      refine yes (by omega) ?_
      by_cases c0 : (i : Int) > 0
      · have ew : wrap64 ((i : Int) - 1) = ((i - 1 : Nat) : Int) := by rw [w64 (by omega) (by omega)]; omega
        have hp : prevL l i = some (l[i - 1]'(by omega)).f0 := by
          unfold prevL
          rw [dif_pos ⟨by omega, by omega⟩]
        simp only [ew]
        clear ew
        refine yes c0 (yes (by omega) (yes (by omega) ?_))
        rw [rd33 l (i - 1) (by omega), rd33 l i hlt]
        by_cases c1 : (l[i - 1]'(by omega)).f0 = 1
        · exact yes c1 (J1 false (by rw [hp]; unfold sepP; simp [c1]))
        · exact no c1 (yes (by omega) (J1 _ (by rw [hp]; unfold sepP; simp [c1, cv])))
      · refine no c0 (J1 false ?_)
        have : prevL l i = none := by
          unfold prevL
          rw [dif_neg (by omega)]
        rw [this]; rfl
    · obtain rfl : i = l.length := by omega
      exact stop acc
theorem rtext : Ev (fun k => letterboxref10_Text.f k (l.map cv)) (strOfNums (textL none l)) := by
  unfold letterboxref10_Text.f
  have := rtext_l0 l hf hl l.length 0 [] (Nat.le_refl _) (Nat.zero_le _) (by simp)
  exact this
end
end Go.Proofs.Ytcjepgofcojeoaa.Ad
