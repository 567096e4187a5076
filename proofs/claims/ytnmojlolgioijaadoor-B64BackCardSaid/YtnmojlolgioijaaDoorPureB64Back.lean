/- The law B64Back holds of every row of bytes, every width and all gaps: what is encoded is decoded as it was. No condition. -/
import Derived.Test.YtnmojlolgioijaaDoorRDec
import Derived.Test.YtnmojlolgioijaaDoorPx7
set_option linter.unusedVariables false
namespace Go.Proofs.YtnmojlolgioijaaDoor.Pure
open Go.RowKit Go.Proofs.YtnmojlolgioijaaDoor.P Go.Proofs.YtnmojlolgioijaaDoorW.PrintWords Go.Proofs.YtnmojlolgioijaaDoorW.PrintLast Go.Proofs.YtnmojlolgioijaaDoor.Aids Go.Proofs.YtnmojlolgioijaaDoor.B64

theorem bare_ch (w : Nat) (h1 : 1 ≤ w) : ∀ (d : Nat) (p : List Int), p.length ≤ d → bare (ch w d p) = bare p
  | 0, p, h => by
    have : p = [] := List.eq_nil_of_length_eq_zero (by omega)
    subst this; rfl
  | d + 1, p, h => by
    unfold ch
    by_cases hp : p = []
    · subst hp; rfl
    · have hpos : 0 < p.length := List.length_pos_iff.2 hp
      rw [if_neg hp, bare_append, bare_append, bare_ch w h1 d _ (by rw [List.length_drop]; omega), show bare [13, 10] = [] from rfl, List.append_nil, ← bare_append, List.take_append_drop]
theorem ch_len (w : Nat) (h1 : 1 ≤ w) : ∀ (d : Nat) (p : List Int), p.length ≤ d → (ch w d p).length ≤ 3 * p.length
  | 0, p, h => by simp [ch]
  | d + 1, p, h => by
    unfold ch
    by_cases hp : p = []
    · subst hp; simp
    · have hpos : 0 < p.length := List.length_pos_iff.2 hp
      have := ch_len w h1 d (p.drop w) (by rw [List.length_drop]; omega)
      rw [if_neg hp]
      simp only [List.length_append, List.length_take, List.length_drop, List.length_cons, List.length_nil] at this ⊢
      omega
theorem ch_byte (w : Nat) : ∀ (d : Nat) (p : List Int), byte p → byte (ch w d p)
  | 0, p, h => byte_nil
  | d + 1, p, h => by
    unfold ch
    split
    · exact byte_nil
    · exact byte_append (byte_append (byte_take h _) (byte_cons (by decide) (byte_one (by decide) (by decide)))) (ch_byte w d _ (byte_drop h _))
theorem enc_byte {l : List Int} (h : byte l) (w : Int) : byte (enc l w) := by
  unfold enc
  split
  · exact E_byte h
  · exact ch_byte _ _ _ (E_byte h)
theorem enc_len (l : List Int) (w : Int) : (enc l w).length ≤ 3 * (E l).length := by
  unfold enc
  split
  · omega
  · exact ch_len _ (by omega) _ _ (Nat.le_refl _)
theorem bare_E {l : List Int} (h : byte l) : bare (E l) = E l := bare_no fun c hc => (E_chars l h c hc).1
theorem bare_enc {l : List Int} (h : byte l) (w : Int) : bare (enc l w) = E l := by
  unfold enc
  split
  · exact bare_E h
  · rw [bare_ch _ (by omega) _ _ (Nat.le_refl _), bare_E h]
theorem back_l0 (b gaps e : List Int) (hb : byte b) (hg : byte gaps) (he : bare e = E b) (heb : byte e) (hel : e.length ≤ 2000) (d : Nat) : ∀ (i : Nat) (f : List Int), e.length - i ≤ d → i ≤ e.length → f.length ≤ 2 * i → byte f → bare f = bare (e.take i) →
    Ev (fun k => letterboxlaw02_B64Back.l0 k b gaps e f (i : Int)) true := by
  have hfin : ∀ f : List Int, byte f → f.length ≤ 5000 → bare f = E b → Ev (fun k => (b64_Decode.f k f).bind fun bt191 => ((b64_Decode.f k e).bind fun bt195 => (if bt191.2 = true then (if bt195.2 = true then (if (strOfNums bt191.1).toList = (strOfNums b).toList then (some ((strOfNums bt195.1).toList == (strOfNums b).toList)) else (some false)) else (some false)) else (some false)))) true := by
    intro f hf hfl hfe
    refine bnd (dec_eq f hf (by omega)) (bnd (dec_eq e heb (by omega)) ?_)
    rw [dec_of hb hfe, dec_of hb he]
    exact yes rfl (yes rfl (yes rfl (fin (by simp [told]))))
  induction d with
  | zero =>
    intro i f hd hi hfl hf hfe
    refine st (fun k => by rw [letterboxlaw02_B64Back.l0]) ?_
    exact no (by omega) (hfin f hf (by omega) (by rw [hfe, List.take_of_length_le (by omega), he]))
  | succ d ih =>
    intro i f hd hi hfl hf hfe
    refine st (fun k => by rw [letterboxlaw02_B64Back.l0]) ?_
    by_cases hlt : i < e.length
    · have e1 : wrap64 ((i : Int) + 1) = ((i + 1 : Nat) : Int) := by rw [w64 (by omega) (by omega)]; omega
      have hc := heb _ (rd_mem e i hlt)
      have htk : e.take (i + 1) = e.take i ++ [rd e (i : Int)] := by rw [rd_at e i hlt, List.take_succ_eq_append_getElem hlt]
      rw [e1]
      refine yes (by omega) (yes (by omega) (yes (by omega) (bs ?_)))
      have n1 : Ev (fun k => letterboxlaw02_B64Back.l0 k b gaps e (f ++ [rd e (i : Int)]) ((i + 1 : Nat) : Int)) true :=
        ih (i + 1) _ (by omega) (by omega) (by simp; omega) (byte_append hf (byte_one hc.1 hc.2)) (by rw [htk, bare_append, bare_append, hfe])
      by_cases hgl : (i : Int) < (gaps.length : Int)
      · refine yes hgl ?_
        have hgb := hg _ (rd_mem gaps i (by omega))
        generalize rd gaps (i : Int) = y at *
        by_cases h7 : Go.bits .and .u8 y 7 < 4
        · refine yes h7 ?_
          have all : ∀ n : Nat, n < 256 → 0 ≤ Go.bits .and .u8 (n : Int) 3 ∧ Go.bits .and .u8 (n : Int) 3 < 4 ∧ gap (bt (⟨#[32, 9, 13, 10]⟩ : ByteArray) (Go.bits .and .u8 (n : Int) 3)) = true ∧ 0 ≤ bt (⟨#[32, 9, 13, 10]⟩ : ByteArray) (Go.bits .and .u8 (n : Int) 3) ∧ bt (⟨#[32, 9, 13, 10]⟩ : ByteArray) (Go.bits .and .u8 (n : Int) 3) ≤ 255 := by decide +kernel
          have h3 := all y.toNat (by omega)
          rw [Int.toNat_of_nonneg hgb.1] at h3
          generalize bt (⟨#[32, 9, 13, 10]⟩ : ByteArray) (Go.bits .and .u8 y 3) = z at *
          refine yes h3.1 (yes h3.2.1 (yes (by simp; omega) ?_))
          refine ih (i + 1) _ (by omega) (by omega) (by simp; omega) (byte_append (byte_append hf (byte_one hc.1 hc.2)) (byte_one h3.2.2.2.1 h3.2.2.2.2)) ?_
          have hz : bare [z] = [] := by unfold bare; rw [List.filter_cons, if_neg (by rw [h3.2.2.1]; decide)]; rfl
          rw [bare_append, bare_append, hz, List.append_nil, htk, bare_append, hfe]
        · exact no h7 n1
      · exact no hgl n1
    · exact no (by omega) (hfin f hf (by omega) (by rw [hfe, List.take_of_length_le (by omega), he]))
theorem B64Back : letterboxlaw02_B64Back.Pure := by
  intro l w gaps _ _ h3 h4 _ _ h7
  have hb : byte l := byte_wf h3
  have hg : byte gaps := byte_wf h7
  have hw := wf_u8 h4
  refine Ev.rounds (g := fun k => letterboxlaw02_B64Back.f k l w gaps) ?_
  show Ev (fun k => (letterboxlaw02_awake.f).bind _) _
  refine bs ?_
  refine yes rfl ?_
  by_cases h0 : (l.length : Int) > 300
  · refine yes h0 (st (fun k => by rw [letterboxlaw02_B64Back.j0]) (yes rfl (fin rfl)))
  refine no h0 (st (fun k => by rw [letterboxlaw02_B64Back.j0]) ?_)
  by_cases h : (gaps.length : Int) > 100
  · exact yes (decide_eq_true h) (fin rfl)
  refine no (by rw [decide_eq_false h]; decide) ?_
  rw [w64 (by omega) (by omega), enc_eq l w hb (by omega) (by omega)]
  refine bs ?_
  have h1 := E_len l
  have h2 := enc_len l w
  exact back_l0 l gaps (enc l w) hb hg (bare_enc hb w) (enc_byte hb w) (by omega) (enc l w).length 0 [] (by omega) (by omega) (by simp) byte_nil rfl
end Go.Proofs.YtnmojlolgioijaaDoor.Pure
