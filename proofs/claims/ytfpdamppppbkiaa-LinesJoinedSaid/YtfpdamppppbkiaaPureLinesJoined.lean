/- The law LinesJoined holds of all texts, all ends: lines that are put together are told as they were. No condition. -/
import Derived.Test.YtfpdamppppbkiaaLines
import Derived.Test.YtfpdamppppbkiaaPx3
set_option linter.unusedVariables false
namespace Go.Proofs.Ytfpdamppppbkiaa.Pure
open Go.RowKit Go.Proofs.Ytfpdamppppbkiaa.P Go.Proofs.YtfpdamppppbkiaaW.PrintWords Go.Proofs.YtfpdamppppbkiaaW.PrintLast Go.Proofs.Ytfpdamppppbkiaa.Aids Go.Proofs.Ytfpdamppppbkiaa.Lin

/-- a text without ends in it -/
def free (t : List Int) : Prop := ∀ c ∈ t, c ≠ 10 ∧ c ≠ 13
theorem ixn_app : ∀ (t s : List Int), (∀ c ∈ t, c ≠ 10) → ixn (t ++ s) 10 = t.length + ixn s 10
  | [], s, h => by simp
  | x :: t, s, h => by
    show (if x = 10 then 0 else ixn (t ++ s) 10 + 1) = _
    rw [if_neg (h x (by simp)), ixn_app t s (fun c hc => h c (by simp [hc])), List.length_cons]; omega
theorem rd_app (a s : List Int) (j : Nat) (h : j < s.length) : rd (a ++ s) ((a.length + j : Nat) : Int) = rd s (j : Int) := by
  rw [rd_at _ _ (by simp; omega), rd_at _ _ h]; simp
theorem nx_text (acc t e r : List Int) (ht : free t) (he : e = [10] ∨ e = [13, 10]) :
    ln_nx (acc ++ (t ++ (e ++ r))) (acc ++ (t ++ (e ++ r))).length acc.length = ⟨(acc.length : Int), ((acc.length + t.length : Nat) : Int), ((acc.length + t.length + e.length : Nat) : Int)⟩ := by
  have hsub : t ++ (e ++ r) = ((acc ++ (t ++ (e ++ r))).take (acc ++ (t ++ (e ++ r))).length).drop acc.length := by
    rw [List.take_length, List.drop_left]
  rcases he with rfl | rfl
  · have hm : t.length = ixn (t ++ ([10] ++ r)) 10 := by
      rw [ixn_app t _ (fun c hc => (ht c hc).1)]; rfl
    rw [ln_nx_yes hsub hm (by simp) ((acc.length + t.length : Nat) : Int) ?_]
    · show (⟨_, _, _⟩ : S29) = ⟨_, _, _⟩
      congr 1
    · refine if_neg fun h => ?_
      have hpos := h.1
      have h13 := h.2
      rw [show acc.length + t.length - 1 = acc.length + (t.length - 1) by omega, rd_app acc _ _ (by simp; omega)] at h13
      have : rd (t ++ ([10] ++ r)) ((t.length - 1 : Nat) : Int) = rd t ((t.length - 1 : Nat) : Int) := by
        rw [rd_at _ _ (by simp; omega), rd_at _ _ (by omega), List.getElem_append_left]
      rw [this] at h13
      exact (ht _ (rd_mem t (t.length - 1) (by omega))).2 h13
  · have hm : t.length + 1 = ixn (t ++ ([13, 10] ++ r)) 10 := by
      rw [ixn_app t _ (fun c hc => (ht c hc).1)]; rfl
    rw [ln_nx_yes hsub hm (by simp) ((acc.length + t.length : Nat) : Int) ?_]
    · show (⟨_, _, _⟩ : S29) = ⟨_, _, _⟩
      congr 1
    · refine (if_pos ⟨by omega, ?_⟩).trans (by omega)
      rw [show acc.length + (t.length + 1) - 1 = acc.length + t.length by omega, rd_app acc _ _ (by simp)]
      have := rd_app t ([13, 10] ++ r) 0 (by simp)
      rw [Nat.add_zero] at this
      rw [this]; rfl
theorem nx_last (acc t : List Int) (ht : free t) : ln_nx (acc ++ t) (acc ++ t).length acc.length = ⟨(acc.length : Int), ((acc ++ t).length : Int), ((acc ++ t).length : Int)⟩ := by
  have hsub : t = ((acc ++ t).take (acc ++ t).length).drop acc.length := by
    rw [List.take_length, List.drop_left]
  have hm : t.length = ixn t 10 := by
    have := ixn_app t [] (fun c hc => (ht c hc).1)
    rw [List.append_nil] at this
    rw [this]; rfl
  exact ln_nx_no hsub hm (by simp)
def txs (b : List Int) (at_ : Nat) : List ByteArray := (ln_from b b.length at_).map fun x => ln_txt b x.f0 x.f1
theorem txs_end (b : List Int) : txs b b.length = [] := by unfold txs; rw [ln_from_end b _ _ (by omega)]; rfl
theorem txs_step (acc t e r : List Int) (ht : free t) (he : e = [10] ∨ e = [13, 10]) :
    txs (acc ++ (t ++ (e ++ r))) acc.length = strOfNums t :: txs (acc ++ (t ++ (e ++ r))) (acc.length + t.length + e.length) := by
  have hel : 1 ≤ e.length := by rcases he with rfl | rfl <;> simp
  unfold txs
  rw [ln_from_step _ _ _ (by simp; omega), nx_text acc t e r ht he, List.map_cons, Int.toNat_natCast]
  congr 1
  show ln_txt _ (acc.length : Int) ((acc.length + t.length : Nat) : Int) = _
  unfold ln_txt
  rw [if_pos ⟨by omega, by omega, by simp; omega⟩, Int.toNat_natCast, Int.toNat_natCast]
  congr 1
  rw [show acc.length + t.length = (acc ++ t).length by simp, ← List.append_assoc, List.take_left, List.drop_left]
theorem txs_last (acc t : List Int) (ht : free t) (hne : t ≠ []) : txs (acc ++ t) acc.length = [strOfNums t] := by
  have hpos : 0 < t.length := List.length_pos_iff.2 hne
  unfold txs
  rw [ln_from_step _ _ _ (by simp; omega), nx_last acc t ht, List.map_cons, Int.toNat_natCast, ln_from_end _ _ _ (by omega)]
  show [_] = [_]
  congr 1
  show ln_txt _ (acc.length : Int) ((acc ++ t).length : Int) = _
  unfold ln_txt
  rw [if_pos ⟨by omega, by rw [List.length_append]; omega, by omega⟩, Int.toNat_natCast, Int.toNat_natCast, List.take_length, List.drop_left]
theorem wants_at {b : List Int} {l : List S29} {wants : List ByteArray} (h : l.map (fun x => ln_txt b x.f0 x.f1) = wants) (i : Nat) (hi : i < l.length) : ln_txt b (rd_T29 l (i : Int)).f0 (rd_T29 l (i : Int)).f1 = rdOf ByteArray.empty wants (i : Int) := by
  unfold rd_T29 rdOf
  rw [Int.toNat_natCast, ← h, List.getD_eq_getElem?_getD, List.getD_eq_getElem?_getD, List.getElem?_map, List.getElem?_eq_getElem hi]; rfl
theorem joined_l2 (b : List Int) (hb : byte b) (hl : b.length ≤ 1000) (wants : List ByteArray) (l : List S29) (hll : l.length ≤ 1000) (h : l.map (fun x => ln_txt b x.f0 x.f1) = wants) (d : Nat) : ∀ i : Nat, l.length - i ≤ d →
    Ev (fun k => letterboxlaw05_LinesJoined.l2 k (strOfNums b) wants l (i : Int)) true := by
  have hwl : wants.length = l.length := by rw [← h, List.length_map]
  induction d with
  | zero =>
    intro i hd
    refine st (fun k => by rw [letterboxlaw05_LinesJoined.l2]) ?_
    exact no (by omega) (fin rfl)
  | succ d ih =>
    intro i hd
    refine st (fun k => by rw [letterboxlaw05_LinesJoined.l2]) ?_
    by_cases hi : i < l.length
    · rw [strOfNums_size, bytes_str b hb, show wrap64 ((i : Int) + 1) = ((i + 1 : Nat) : Int) by rw [w64 (by omega) (by omega)]; omega]
      refine yes (by omega) (yes (by omega) (yes (by omega) (bs (yes (by omega) (yes ?_ (ih (i + 1) (by omega)))))))
      rw [wants_at h i hi]
    · exact no (by omega) (fin rfl)
theorem joined_j5 (b : List Int) (hb : byte b) (hl : b.length ≤ 1000) (wants : List ByteArray) (h : txs b 0 = wants) : Ev (fun k => letterboxlaw05_LinesJoined.j5 k (strOfNums b) wants) true := by
  refine st (fun k => by rw [letterboxlaw05_LinesJoined.j5]) ?_
  rw [strOfNums_size, bytes_str b hb, of_eq b 0 (b.length : Int) (by omega), if_pos ⟨by omega, by omega, by omega⟩, Int.toNat_natCast]
  have hwl : wants.length = (ln_from b b.length 0).length := by rw [← h]; exact List.length_map ..
  have hll := ln_from_len b b.length b.length 0 (by omega)
  refine yes (by omega) (bs (yes (by rw [hwl]; rfl) ?_))
  exact joined_l2 b hb hl wants (ln_from b b.length 0) (by omega) h _ 0 (Nat.le_refl _)
/-- a text's bytes, as many as 20, without ends -/
def tx (s : List Int) : List Int := (s.take 20).filter fun c => c != 10 && c != 13
theorem tx_free (s : List Int) : free (tx s) := by
  intro c hc
  have := (List.mem_filter.1 hc).2
  simp at this
  exact this
theorem tx_byte {s : List Int} (h : byte s) : byte (tx s) := fun c hc => byte_take h 20 c (List.mem_filter.1 hc).1
theorem tx_len (s : List Int) : (tx s).length ≤ 20 := Nat.le_trans (List.length_filter_le _ _) (by rw [List.length_take]; omega)
def fl (s : List Int) (j : Nat) : List Int := (s.take j).filter fun c => c != 10 && c != 13
theorem fl_len (s : List Int) (j : Nat) : (fl s j).length ≤ j := Nat.le_trans (List.length_filter_le _ _) (by rw [List.length_take]; omega)
theorem fl_step (s : List Int) (j : Nat) (h : j < s.length) : fl s (j + 1) = fl s j ++ (if (rd s (j : Int)) = 10 ∨ rd s (j : Int) = 13 then [] else [rd s (j : Int)]) := by
  unfold fl
  rw [rd_at s j h, List.take_succ_eq_append_getElem h, List.filter_append]
  congr 1
  by_cases h1 : s[j] = 10 ∨ s[j] = 13
  · rw [if_pos h1, List.filter_cons, if_neg (by simp; omega)]; rfl
  · rw [if_neg h1, List.filter_cons, if_pos (by simp; omega)]; rfl
section
variable (l : List ByteArray) (ends : List Int) (last : Bool) (hl : l.length ≤ 10) (hel : l.length ≤ ends.length)
theorem joined_j4_cont (acc : List Int) (ws : List ByteArray) (i : Nat) (hi : i < l.length) (hacc : byte acc) (hal : acc.length ≤ 22 * i) (hwl : ws.length ≤ i) (t : List Int) (htb : byte t) (htl : t.length ≤ 20)
    (hl : l.length ≤ 10) (hel : l.length ≤ ends.length)
    (hk : ∀ e : List Int, e = [10] ∨ e = [13, 10] → Ev (fun k => letterboxlaw05_LinesJoined.l0 k l ends last (strOfNums (acc ++ (t ++ e))) (ws ++ [strOfNums t]) ((i + 1 : Nat) : Int)) true) :
    Ev (fun k => letterboxlaw05_LinesJoined.j4 k l ends last (strOfNums (acc ++ t)) ws (i : Int) (strOfNums t) false) true := by
  refine st (fun k => by rw [letterboxlaw05_LinesJoined.j4]) ?_
  simp only [strOfNums_size, show (⟨#[13]⟩ : ByteArray) = strOfNums [13] from rfl, show (⟨#[10]⟩ : ByteArray) = strOfNums [10] from rfl, str_append]
  rw [show wrap64 ((i : Int) + 1) = ((i + 1 : Nat) : Int) by rw [w64 (by omega) (by omega)]; omega]
  refine no (by decide) (yes (by omega) (yes (by omega) ?_))
  by_cases h1 : Go.bits .and .u8 (rd ends (i : Int)) 1 = 1
  · refine yes h1 (yes (by simp; omega) (yes (by simp; omega) (yes (by omega) ?_)))
    have := hk [13, 10] (.inr rfl)
    rw [show acc ++ t ++ [13] ++ [10] = acc ++ (t ++ [13, 10]) by simp]
    exact this
  · refine no h1 (yes (by simp; omega) (yes (by omega) ?_))
    have := hk [10] (.inl rfl)
    rw [show acc ++ t ++ [10] = acc ++ (t ++ [10]) by simp]
    exact this
theorem joined_l1 (hl : l.length ≤ 10) (acc : List Int) (ws : List ByteArray) (i : Nat) (hi : i < l.length) (hal : acc.length ≤ 22 * i)
    (hk : ∀ u : Bool, (u = true → i + 1 = l.length ∧ last = true) → (u = false → ¬ (i + 1 = l.length ∧ last = true)) → Ev (fun k => letterboxlaw05_LinesJoined.j4 k l ends last (strOfNums (acc ++ tx (bytesOf (rdOf ByteArray.empty l (i : Int))))) ws (i : Int) (strOfNums (tx (bytesOf (rdOf ByteArray.empty l (i : Int))))) u) true) (d : Nat) : ∀ j : Nat, 20 - j ≤ d → j ≤ 20 → j ≤ (rdOf ByteArray.empty l (i : Int)).size →
    Ev (fun k => letterboxlaw05_LinesJoined.l1 k l ends last (strOfNums acc) ws (i : Int) (strOfNums (fl (bytesOf (rdOf ByteArray.empty l (i : Int))) j)) (j : Int)) true := by
  generalize hs : rdOf ByteArray.empty l (i : Int) = s at *
  have hsz : (bytesOf s).length = s.size := size_bytes s
  have stop : ∀ j : Nat, j ≤ 20 → j ≤ s.size → ¬ (j < s.size ∧ j < 20) → Ev (fun k => letterboxlaw05_LinesJoined.j3 k l ends last (strOfNums acc) ws (i : Int) (strOfNums (fl (bytesOf s) j)) (j : Int) false) true := by
    intro j hj hjs hst
    have he : fl (bytesOf s) j = tx (bytesOf s) := by
      unfold fl tx
      by_cases h20 : j = 20
      · rw [h20]
      · rw [List.take_of_length_le (show (bytesOf s).length ≤ j by omega), List.take_of_length_le (show (bytesOf s).length ≤ 20 by omega)]
    have htl := tx_len (bytesOf s)
    refine st (fun k => by rw [letterboxlaw05_LinesJoined.j3]) ?_
    rw [he]
    simp only [strOfNums_size, str_append]
    rw [show wrap64 ((l.length : Int) - 1) = ((l.length - 1 : Nat) : Int) by rw [w64 (by omega) (by omega)]; omega]
    refine no (by decide) (yes (by omega) ?_)
    by_cases hlast : i + 1 = l.length
    · refine yes (by omega) (hk last (fun h => ⟨hlast, h⟩) (fun h hn => by rw [hn.2] at h; cases h))
    · refine no (by omega) (hk false (fun h => by cases h) (fun _ hn => hlast hn.1))
  have unf : ∀ j : Nat, j ≤ 20 → ((¬ (j < s.size ∧ j < 20) → True) ∧ (j < s.size ∧ j < 20 → Ev (fun k => letterboxlaw05_LinesJoined.j3 k l ends last (strOfNums acc) ws (i : Int) (strOfNums (fl (bytesOf s) j)) (j : Int) true) true)) → j ≤ s.size →
      Ev (fun k => letterboxlaw05_LinesJoined.l1 k l ends last (strOfNums acc) ws (i : Int) (strOfNums (fl (bytesOf s) j)) (j : Int)) true := by
    intro j hj hgo hjs
    refine st (fun k => by rw [letterboxlaw05_LinesJoined.l1]) ?_
    rw [hs]
    refine yes (by omega) (yes (by omega) ?_)
    by_cases h1 : j < s.size
    · refine yes (by omega) ?_
      by_cases h2 : j < 20
      · rw [decide_eq_true (show (j : Int) < 20 by omega)]; exact hgo.2 ⟨h1, h2⟩
      · rw [decide_eq_false (show ¬ (j : Int) < 20 by omega)]; exact stop j hj hjs (fun h => h2 h.2)
    · exact no (by omega) (stop j hj hjs (fun h => h1 h.1))
  induction d with
  | zero => intro j hd hj hjs; exact unf j hj ⟨fun _ => trivial, fun h => by omega⟩ hjs
  | succ d ih =>
    intro j hd hj hjs
    refine unf j hj ⟨fun _ => trivial, fun h => ?_⟩ hjs
    refine st (fun k => by rw [letterboxlaw05_LinesJoined.j3]) ?_
    have hstep := fl_step (bytesOf s) j (by omega)
    have hfl := fl_len (bytesOf s) j
    have hn := ih (j + 1) (by omega) (by omega) (by omega)
    rw [hs, bt_bytes, show wrap64 ((j : Int) + 1) = ((j + 1 : Nat) : Int) by rw [w64 (by omega) (by omega)]; omega]
    refine yes rfl (yes (by omega) (yes (by omega) (yes (by omega) (yes (by omega) ?_))))
    by_cases h10 : rd (bytesOf s) (j : Int) = 10
    · rw [if_pos (.inl h10), List.append_nil] at hstep
      rw [hstep] at hn
      exact yes h10 hn
    refine no h10 ?_
    by_cases h13 : rd (bytesOf s) (j : Int) = 13
    · rw [if_pos (.inr h13), List.append_nil] at hstep
      rw [hstep] at hn
      exact yes h13 hn
    rw [if_neg (fun h => h.elim h10 h13)] at hstep
    rw [hstep] at hn
    have hex : s.extract j (j + 1) = strOfNums [rd (bytesOf s) (j : Int)] := by
      apply bytes_inj
      rw [bytes_extract, List.drop_take, drop_rd (bytesOf s) j (by omega), show j + 1 - j = 1 by omega, bytes_str _ (byte_one (byte_bytes s _ (rd_mem _ j (by omega))).1 (byte_bytes s _ (rd_mem _ j (by omega))).2)]; rfl
    simp only [Int.toNat_natCast, hex, strOfNums_size, str_append]
    exact no h13 (yes (by omega) (yes (by omega) (yes (by simp; omega) hn)))
theorem joined_l0 (hl : l.length ≤ 10) (hel : l.length ≤ ends.length) (d : Nat) : ∀ (i : Nat) (acc : List Int) (ws : List ByteArray), l.length - i ≤ d → i ≤ l.length → byte acc → acc.length ≤ 22 * i → ws.length ≤ i →
    (∀ r : List Int, txs (acc ++ r) 0 = ws ++ txs (acc ++ r) acc.length) →
    Ev (fun k => letterboxlaw05_LinesJoined.l0 k l ends last (strOfNums acc) ws (i : Int)) true := by
  have stop : ∀ (acc : List Int) (ws : List ByteArray), byte acc → acc.length ≤ 220 → (∀ r : List Int, txs (acc ++ r) 0 = ws ++ txs (acc ++ r) acc.length) → Ev (fun k => letterboxlaw05_LinesJoined.j5 k (strOfNums acc) ws) true := by
    intro acc ws hb hal h
    refine joined_j5 acc hb (by omega) ws ?_
    have := h []
    rw [List.append_nil, txs_end, List.append_nil] at this
    exact this
  induction d with
  | zero =>
    intro i acc ws hd hi hb hal hwl h
    refine st (fun k => by rw [letterboxlaw05_LinesJoined.l0]) ?_
    exact no (by omega) (stop acc ws hb (by omega) h)
  | succ d ih =>
    intro i acc ws hd hi hb hal hwl h
    refine st (fun k => by rw [letterboxlaw05_LinesJoined.l0]) ?_
    by_cases hlt : i < l.length
    · refine yes (by omega) ?_
      have hstart := joined_l1 l ends last hl acc ws i hlt hal ?_ 20 0 (by omega) (by omega) (by omega)
      · exact hstart
      · have htb := tx_byte (byte_bytes (rdOf ByteArray.empty l (i : Int)))
        have htf := tx_free (bytesOf (rdOf ByteArray.empty l (i : Int)))
        have htl := tx_len (bytesOf (rdOf ByteArray.empty l (i : Int)))
        generalize tx (bytesOf (rdOf ByteArray.empty l (i : Int))) = t at *
        intro u hu1 hu2
        cases u with
        | true =>
          refine st (fun k => by rw [letterboxlaw05_LinesJoined.j4]) ?_
          refine yes rfl ?_
          by_cases hte : t = []
          · refine yes ((str_toList_nil t).2 hte) ?_
            rw [hte, List.append_nil]
            exact stop acc ws hb (by omega) h
          · refine no (fun e => hte ((str_toList_nil t).1 e)) (yes (by omega) ?_)
            refine joined_j5 (acc ++ t) (byte_append hb htb) (by simp; omega) _ ?_
            rw [h t, txs_last acc t htf hte]
        | false =>
          refine joined_j4_cont l ends last acc ws i hlt hb hal hwl t htb htl hl hel (fun e he => ?_)
          have helen : e.length ≤ 2 := by rcases he with rfl | rfl <;> simp
          have heb : byte e := by rcases he with rfl | rfl <;> (intro c hc; simp at hc; omega)
          refine ih (i + 1) _ _ (by omega) (by omega) (byte_append hb (byte_append htb heb)) (by simp; omega) (by simp; omega) (fun r => ?_)
          rw [show acc ++ (t ++ e) ++ r = acc ++ (t ++ (e ++ r)) by simp, h (t ++ (e ++ r)), txs_step acc t e r htf he, show (acc ++ (t ++ e)).length = acc.length + t.length + e.length by simp; omega]
          simp
    · exact no (by omega) (stop acc ws hb (by omega) h)
end
theorem LinesJoined : letterboxlaw05_LinesJoined.Pure := by
  intro l ends last _ _ _ _
  refine Ev.rounds (g := fun k => letterboxlaw05_LinesJoined.f k l ends last) ?_
  show Ev (fun k => (letterboxlaw05_awake.f).bind _) _
  refine bs ?_
  refine yes rfl ?_
  by_cases h0 : (l.length : Int) > 10
  · exact yes h0 (st (fun k => by rw [letterboxlaw05_LinesJoined.j0]) (yes rfl (fin rfl)))
  refine no h0 (st (fun k => by rw [letterboxlaw05_LinesJoined.j0]) ?_)
  by_cases h : (ends.length : Int) < (l.length : Int)
  · exact yes (decide_eq_true h) (fin rfl)
  refine no (by rw [decide_eq_false h]; decide) ?_
  exact joined_l0 l ends last (by omega) (by omega) l.length 0 [] [] (by omega) (by omega) byte_nil (by simp) (by simp) (fun r => rfl)
end Go.Proofs.Ytfpdamppppbkiaa.Pure
