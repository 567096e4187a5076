/- The law AddrBroken holds: a list with a sign too many is none. -/
import Derived.Test.YtcjepgofcojeoaaAd4
import Derived.Test.YtcjepgofcojeoaaPx5
set_option linter.unusedVariables false
set_option linter.unusedSimpArgs false
set_option linter.unusedSectionVars false
namespace Go.Proofs.Ytcjepgofcojeoaa.Pure
open Go.RowKit Go.Proofs.Ytcjepgofcojeoaa.P Go.Proofs.YtcjepgofcojeoaaW.PrintWords Go.Proofs.YtcjepgofcojeoaaW.PrintLast Go.Proofs.Ytcjepgofcojeoaa.Aids Go.Proofs.Ytcjepgofcojeoaa.Ad
theorem awakeB : Ev (fun k => letterboxlaw10_awake.f k) true := evk (fun k => letterboxlaw10_awake.mono k) 60 (by decide +kernel)
/-! one address -/
def blk (c : Int) : List Int := [117, 97 + c % 3, 64, 104, 44, 32]
def blks (l : List Int) : List Int := l.flatMap blk
def uw (c : Int) : Pc := Pc.w (strOfNums [117, 97 + c % 3])
def bt4 (c : Int) : List Pc := [uw c, Pc.s 64, Pc.w (strOfNums [104]), Pc.s 44]
def bts (l : List Int) : List Pc := l.flatMap bt4
theorem u_wch (c : Int) : ∀ x ∈ [117, 97 + c % 3], wch x = true := by
  have h : c % 3 = 0 ∨ c % 3 = 1 ∨ c % 3 = 2 := by omega
  rcases h with h | h | h <;> rw [h] <;> decide
theorem pc_blk (c : Int) (Z : List Int) : pcL (blk c ++ Z) = (pcL Z).map (bt4 c ++ ·) := by
  show pcL ([117, 97 + c % 3] ++ 64 :: ([104] ++ 44 :: (32 :: Z))) = _
  rw [pcL_word (by simp) (u_wch c) (by decide), pcL_sign (by decide), pcL_word (by simp) (by decide) (by decide), pcL_sign (by decide), pcL_blank]
  cases pcL Z with
  | none => rfl
  | some P => rfl
theorem pc_blks (l : List Int) (Z : List Int) : pcL (blks l ++ Z) = (pcL Z).map (bts l ++ ·) := by
  induction l with
  | nil =>
    show pcL Z = _
    cases pcL Z with
    | none => rfl
    | some P => rfl
  | cons c t ih =>
    show pcL ((blk c ++ blks t) ++ Z) = _
    rw [List.append_assoc, pc_blk, ih]
    cases pcL Z with
    | none => rfl
    | some P => show some (bt4 c ++ (bts t ++ P)) = some ((bt4 c ++ bts t) ++ P); rw [List.append_assoc]
def adr (c : Int) : S27 := ⟨0, ⟨#[]⟩, sq_join [strOfNums [117, 97 + c % 3]] (⟨#[]⟩ : ByteArray), strOfNums [104]⟩
theorem item_blk (c : Int) (R : List Pc) : item0 (bt4 c ++ R) = (true, Pc.s 44 :: R, [adr c]) := rfl
theorem items_blks (l : List Int) (R : List Pc) : items0 (bts l ++ R) = ((items0 R).1, (items0 R).2.1, l.map adr ++ (items0 R).2.2) := by
  induction l with
  | nil => rfl
  | cons c t ih =>
    show items0 ((bt4 c ++ bts t) ++ R) = _
    rw [List.append_assoc, items0_step (item_blk c _), ih]
    simp
/-! what breaks it -/
def brk (k : Nat) : List Int := ([[60], [62], [64], [59], [120, 64], [60, 97, 64, 98], [97, 64, 98, 62], [34, 113], [91], [120, 64, 64, 121]] : List (List Int)).getD k []
theorem blk_bytes (c : Int) : ∀ x ∈ blk c, x ≠ 34 ∧ x ≠ 93 ∧ 0 ≤ x ∧ x ≤ 255 := by
  have h : c % 3 = 0 ∨ c % 3 = 1 ∨ c % 3 = 2 := by omega
  unfold blk
  rcases h with h | h | h <;> rw [h] <;> decide
theorem blks_bytes (l : List Int) : ∀ x ∈ blks l, x ≠ 34 ∧ x ≠ 93 ∧ 0 ≤ x ∧ x ≤ 255 := by
  intro x hx
  obtain ⟨c, _, hc⟩ := List.mem_flatMap.1 hx
  exact blk_bytes c x hc
theorem broken (k : Nat) (hk : k < 10) (r : List Int) : pcL (brk k ++ 44 :: blks r) = none ∨ ∃ P, pcL (brk k ++ 44 :: blks r) = some P ∧ ((items0 P).1 = false ∨ (items0 P).2.1 ≠ []) := by
  have hr : pcL (44 :: blks r) = some (Pc.s 44 :: bts r) := by
    have := pc_blks r []
    rw [List.append_nil, pcL_nil skipL_nil] at this
    rw [pcL_sign (by decide), this]
    simp
  match k, hk with
  | 0, _ =>
    refine .inr ⟨_, by show pcL (60 :: 44 :: blks r) = _; rw [pcL_sign (by decide), hr]; rfl, .inl (items0_fail rfl)⟩
  | 1, _ =>
    refine .inr ⟨_, by show pcL (62 :: 44 :: blks r) = _; rw [pcL_sign (by decide), hr]; rfl, .inr ?_⟩
    rw [items0_stop rfl rfl]
    exact List.cons_ne_nil _ _
  | 2, _ =>
    refine .inr ⟨_, by show pcL (64 :: 44 :: blks r) = _; rw [pcL_sign (by decide), hr]; rfl, .inr ?_⟩
    rw [items0_stop rfl rfl]
    exact List.cons_ne_nil _ _
  | 3, _ =>
    refine .inr ⟨_, by show pcL (59 :: 44 :: blks r) = _; rw [pcL_sign (by decide), hr]; rfl, .inr ?_⟩
    rw [items0_stop rfl rfl]
    exact List.cons_ne_nil _ _
  | 4, _ =>
    refine .inr ⟨_, by show pcL ([120] ++ 64 :: (44 :: blks r)) = _; rw [pcL_word (by simp) (by decide) (by decide), pcL_sign (by decide), hr]; rfl, .inl (items0_fail rfl)⟩
  | 5, _ =>
    refine .inr ⟨_, by show pcL (60 :: ([97] ++ 64 :: ([98] ++ 44 :: blks r))) = _; rw [pcL_sign (by decide), pcL_word (by simp) (by decide) (by decide), pcL_sign (by decide), pcL_word (by simp) (by decide) (by decide), hr]; rfl, .inl (items0_fail rfl)⟩
  | 6, _ =>
    refine .inr ⟨_, by show pcL ([97] ++ 64 :: ([98] ++ 62 :: (44 :: blks r))) = _; rw [pcL_word (by simp) (by decide) (by decide), pcL_sign (by decide), pcL_word (by simp) (by decide) (by decide), pcL_sign (by decide), hr]; rfl, .inr ?_⟩
    rw [items0_stop rfl rfl]
    exact List.cons_ne_nil _ _
  | 7, _ =>
    refine .inl (pcL_noquote (s := 113 :: 44 :: blks r) ?_)
    intro c hc
    rcases List.mem_cons.1 hc with e | hc
    · rw [e]; decide
    · rcases List.mem_cons.1 hc with e | hc
      · rw [e]; decide
      · exact (blks_bytes r c hc).1
  | 8, _ =>
    refine .inl (pcL_nobracket (s := 44 :: blks r) ?_)
    intro c hc
    rcases List.mem_cons.1 hc with e | hc
    · rw [e]; decide
    · exact (blks_bytes r c hc).2.1
  | 9, _ =>
    refine .inr ⟨_, by show pcL ([120] ++ 64 :: (64 :: ([121] ++ 44 :: blks r))) = _; rw [pcL_word (by simp) (by decide) (by decide), pcL_sign (by decide), pcL_sign (by decide), pcL_word (by simp) (by decide) (by decide), hr]; rfl, .inl (items0_fail rfl)⟩
theorem list_blks (l : List Int) : listL (blks l) = (l.map adr, true) := by
  have hp : pcL (blks l) = some (bts l) := by
    have := pc_blks l []
    rw [List.append_nil, pcL_nil skipL_nil] at this
    rw [this]; simp
  have hi : items0 (bts l) = (true, [], l.map adr) := by
    have := items_blks l []
    rw [List.append_nil] at this
    rw [this]
    show (true, [], l.map adr ++ []) = _
    rw [List.append_nil]
  unfold listL
  rw [hp]
  simp only
  rw [hi, if_pos rfl, if_pos rfl]
theorem list_broken (k : Nat) (hk : k < 10) (a r : List Int) : listL (blks a ++ (brk k ++ 44 :: blks r)) = ([], false) := by
  unfold listL
  rw [pc_blks]
  rcases broken k hk r with h | ⟨P, h, h2⟩
  · rw [h]; rfl
  · rw [h]
    simp only [Option.map_some]
    rw [items_blks]
    simp only
    rcases h2 with h2 | h2
    · rw [if_neg (by rw [h2]; decide)]
    · rw [if_neg h2]
      split <;> rfl
/-! the law -/
def brkT (l : List Int) (j k i : Nat) : List Int := if i ≤ j then blks (l.take i) else blks (l.take (j + 1)) ++ (brk k ++ 44 :: blks ((l.take i).drop (j + 1)))
theorem abc_ok (d : Int) (h0 : 0 ≤ d) (h3 : d < 3) : ((⟨#[97, 98, 99]⟩ : ByteArray).extract d.toNat (((d + 1) % 256) : Int).toNat) = strOfNums [97 + d] := by
  have : d = 0 ∨ d = 1 ∨ d = 2 := by omega
  rcases this with rfl | rfl | rfl <;> rfl
theorem blks_snoc (l : List Int) (i : Nat) (h : i < l.length) : blks (l.take (i + 1)) = blks (l.take i) ++ blk (rd l (i : Int)) := by
  unfold blks
  rw [List.take_succ_eq_append_getElem h, List.flatMap_append, rd_at l i h]
  simp
theorem blks_len : ∀ l : List Int, (blks l).length = 6 * l.length
  | [] => rfl
  | c :: t => by
    show (blk c ++ blks t).length = _
    rw [List.length_append, blks_len t]
    simp [blk]; omega
section
variable (l : List Int) (hb : ∀ x ∈ l, 0 ≤ x ∧ x ≤ 255) (hl : l.length ≤ 8) (a1 a2 : Int) (h1 : 0 ≤ a1 ∧ a1 ≤ 255) (h2 : 0 ≤ a2 ∧ a2 ≤ 255)
include hb hl h1 h2
theorem brkT_snoc (j k i : Nat) (hi : i < l.length) : brkT l j k (i + 1) = if i = j then brkT l j k i ++ blk (rd l (i : Int)) ++ (brk k ++ [44]) else brkT l j k i ++ blk (rd l (i : Int)) := by
  unfold brkT
  by_cases h : i = j
  · subst h
    rw [if_neg (by omega), if_pos rfl, if_pos (Nat.le_refl _), blks_snoc l i hi]
    have : (l.take (i + 1)).drop (i + 1) = [] := List.drop_eq_nil_of_le (by rw [List.length_take]; omega)
    rw [this]
    simp [blks]
  · rw [if_neg h]
    by_cases h' : i ≤ j
    · rw [if_pos (by omega), if_pos h', blks_snoc l i hi]
    · rw [if_neg (by omega), if_neg h']
      have e : (l.take (i + 1)).drop (j + 1) = (l.take i).drop (j + 1) ++ [rd l (i : Int)] := by
        rw [List.take_succ_eq_append_getElem hi, List.drop_append_of_le_length (by rw [List.length_take]; omega), rd_at l i hi]
      rw [e]
      have e2 : ∀ (z : List Int) (c : Int), blks (z ++ [c]) = blks z ++ blk c := fun z c => by unfold blks; rw [List.flatMap_append]; simp
      rw [e2]
      simp
theorem broken_l0 (m : Nat) : ∀ i : Nat, l.length - i ≤ m → i ≤ l.length → Ev (fun k => letterboxlaw10_AddrBroken.l0 k l a1 a2 (strOfNums (blks (l.take i))) (strOfNums (brkT l (a2 % (l.length : Int)).toNat (a1 % 10).toNat i)) (i : Int)) true := by
  have hk10 : (a1 % 10).toNat < 10 := by omega
  have stop : Ev (fun k => letterboxlaw10_AddrBroken.l0 k l a1 a2 (strOfNums (blks (l.take l.length))) (strOfNums (brkT l (a2 % (l.length : Int)).toNat (a1 % 10).toNat l.length)) (l.length : Int)) true := by
    refine st (fun k => by rw [letterboxlaw10_AddrBroken.l0]) ?_
    refine no (by omega) ?_
    rw [List.take_length]
    have hbb : byte (blks l) := fun x hx => (blks_bytes l x hx).2.2
    have hlo := list_ok hbb (by rw [blks_len]; omega)
    rw [list_blks] at hlo
    refine bnd hlo ?_
    by_cases hn : l.length = 0
    · obtain rfl : l = [] := List.eq_nil_of_length_eq_zero hn
      have hlo2 := list_ok (s := blks []) hbb (by rw [blks_len]; omega)
      have e : brkT [] (a2 % (([] : List Int).length : Int)).toNat (a1 % 10).toNat ([] : List Int).length = blks [] := by unfold brkT; rw [if_pos (show ([] : List Int).length ≤ _ from Nat.zero_le _)]; rfl
      rw [e]
      exact bnd hlo2 (yes rfl (yes rfl (yes rfl (fin rfl))))
    · have hj : (a2 % (l.length : Int)).toNat < l.length := by
        have h3 := Int.emod_nonneg a2 (show (l.length : Int) ≠ 0 by omega)
        have h4 := Int.emod_lt_of_pos a2 (show (0 : Int) < (l.length : Int) by omega)
        omega
      have e : brkT l (a2 % (l.length : Int)).toNat (a1 % 10).toNat l.length = blks (l.take ((a2 % (l.length : Int)).toNat + 1)) ++ (brk (a1 % 10).toNat ++ 44 :: blks (l.drop ((a2 % (l.length : Int)).toNat + 1))) := by
        unfold brkT
        rw [if_neg (by omega), List.take_length]
      have hbk : byte (brk (a1 % 10).toNat) ∧ (brk (a1 % 10).toNat).length ≤ 10 := by
        have : ∀ q : Fin 10, (∀ c ∈ brk q.val, 0 ≤ c ∧ c ≤ 255) ∧ (brk q.val).length ≤ 10 := by decide
        exact this ⟨_, hk10⟩
      rw [e]
      have hlo2 := list_ok (s := blks (l.take ((a2 % (l.length : Int)).toNat + 1)) ++ (brk (a1 % 10).toNat ++ 44 :: blks (l.drop ((a2 % (l.length : Int)).toNat + 1)))) (byte_append (fun x hx => (blks_bytes _ x hx).2.2) (byte_append hbk.1 (byte_cons (by omega) (fun x hx => (blks_bytes _ x hx).2.2)))) (by simp only [List.length_append, List.length_cons, blks_len, List.length_take, List.length_drop]; omega)
      rw [list_broken _ hk10] at hlo2
      exact bnd hlo2 (yes rfl (yes (by simp) (no (by omega) (no (by decide) (fin rfl)))))
  induction m with
  | zero =>
    intro i hi1 hi2
    obtain rfl : i = l.length := by omega
    exact stop
  | succ m ih =>
    intro i hi1 hi2
    rcases Nat.lt_or_ge i l.length with hlt | hge
    · have hx := hb _ (rd_mem l i hlt)
      have hn := ih (i + 1) (by omega) hlt
      rw [blks_snoc l i hlt, brkT_snoc l hb hl a1 a2 h1 h2 _ _ i hlt] at hn
      have e1 := wr1 (i := i) (by omega)
      have ew : wrap64 a2 = a2 := w64 (by omega) (by omega)
      have et : Int.tmod (rd l (i : Int)) 3 = rd l (i : Int) % 3 := tmod_pos hx.1
      have et2 : Int.tmod a2 (l.length : Int) = a2 % (l.length : Int) := tmod_pos h2.1
      have et3 : Int.tmod a1 10 = a1 % 10 := tmod_pos h1.1
      have hl1 : (blks (l.take i)).length ≤ 60 := by rw [blks_len, List.length_take]; omega
      have hbkl : (brk (a1 % 10).toNat).length ≤ 10 ∧ rdOf ByteArray.empty ([(⟨#[60]⟩ : ByteArray), (⟨#[62]⟩ : ByteArray), (⟨#[64]⟩ : ByteArray), (⟨#[59]⟩ : ByteArray), (⟨#[120, 64]⟩ : ByteArray), (⟨#[60, 97, 64, 98]⟩ : ByteArray), (⟨#[97, 64, 98, 62]⟩ : ByteArray), (⟨#[34, 113]⟩ : ByteArray), (⟨#[91]⟩ : ByteArray), (⟨#[120, 64, 64, 121]⟩ : ByteArray)] : List ByteArray) (a1 % 10) = strOfNums (brk (a1 % 10).toNat) := by
        obtain ⟨q, hq⟩ : ∃ q : Nat, a1 % 10 = (q : Int) := ⟨(a1 % 10).toNat, by omega⟩
        have hq10 : q < 10 := by omega
        rw [hq, Int.toNat_natCast]
        clear hq
        match q, hq10 with
        | 0, _ => exact ⟨by decide, rfl⟩
        | 1, _ => exact ⟨by decide, rfl⟩
        | 2, _ => exact ⟨by decide, rfl⟩
        | 3, _ => exact ⟨by decide, rfl⟩
        | 4, _ => exact ⟨by decide, rfl⟩
        | 5, _ => exact ⟨by decide, rfl⟩
        | 6, _ => exact ⟨by decide, rfl⟩
        | 7, _ => exact ⟨by decide, rfl⟩
        | 8, _ => exact ⟨by decide, rfl⟩
        | 9, _ => exact ⟨by decide, rfl⟩
      have hl2 : (brkT l (a2 % (l.length : Int)).toNat (a1 % 10).toNat i).length ≤ 200 := by
        unfold brkT
        split
        · omega
        · simp only [List.length_append, List.length_cons, blks_len, List.length_take, List.length_drop]; omega
      generalize hT : brkT l (a2 % (l.length : Int)).toNat (a1 % 10).toNat i = T at hn hl2 ⊢
      generalize hS : blks (l.take i) = S at hn hl1 ⊢
      generalize hB : brk (a1 % 10).toNat = B at hn hbkl
      have hbl : strOfNums ([117] ++ [97 + rd l (i : Int) % 3] ++ [64, 104, 44, 32]) = strOfNums (blk (rd l (i : Int))) := rfl
      refine st (fun k => by rw [letterboxlaw10_AddrBroken.l0]) ?_
      simp only [et, et2, et3, ew, e1, abc_ok (rd l (i : Int) % 3) (by omega) (by omega), show (⟨#[117]⟩ : ByteArray) = strOfNums [117] from rfl, show (⟨#[64, 104, 44, 32]⟩ : ByteArray) = strOfNums [64, 104, 44, 32] from rfl, show (⟨#[44]⟩ : ByteArray) = strOfNums [44] from rfl, str_append, hbl, strOfNums_size]
      clear e1 ew et et2 et3
      have hbl2 : (blk (rd l (i : Int))).length = 6 := rfl
      refine yes (by omega) (yes (by omega) (yes (by omega) (yes (by omega) (yes (by omega) (yes (by simp) (yes (by simp) (yes (by omega) (yes (by omega) (no (by omega) ?_)))))))))
      by_cases hij : (i : Int) = a2 % (l.length : Int)
      · rw [if_pos (show i = (a2 % (l.length : Int)).toNat by omega)] at hn
        refine yes hij (bs (yes (by omega) (yes (by simp; omega) ?_)))
        simp only [hbkl.2, str_append, strOfNums_size]
        exact yes (by omega) (yes (by simp; omega) hn)
      · rw [if_neg (show ¬ i = (a2 % (l.length : Int)).toNat by have := Int.emod_nonneg a2 (show (l.length : Int) ≠ 0 by omega); omega)] at hn
        exact no hij hn
    · obtain rfl : i = l.length := by omega
      exact stop
end
theorem AddrBroken : letterboxlaw10_AddrBroken.Pure := by
  intro l0 a1 a2 hm hy hw h1 h2
  refine Ev.rounds (g := fun k => letterboxlaw10_AddrBroken.f k l0 a1 a2) ?_
  unfold letterboxlaw10_AddrBroken.f
  refine bnd awakeB (yes rfl ?_)
  by_cases h8 : (l0.length : Int) > 8
  · exact yes h8 (fin rfl)
  · have hb := byte_wf hw
    have := broken_l0 l0 hb (by omega) a1 a2 (wf_u8 h1) (wf_u8 h2) l0.length 0 (Nat.le_refl _) (Nat.zero_le _)
    have e : brkT l0 (a2 % (l0.length : Int)).toNat (a1 % 10).toNat 0 = [] := by unfold brkT; rw [if_pos (Nat.zero_le _)]; rfl
    rw [e] at this
    exact no h8 this
end Go.Proofs.Ytcjepgofcojeoaa.Pure
