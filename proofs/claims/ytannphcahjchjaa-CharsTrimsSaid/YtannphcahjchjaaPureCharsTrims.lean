/- The law CharsTrims holds of any text and any bytes. -/
import Derived.Test.YtannphcahjchjaaTrim
import Derived.Test.YtannphcahjchjaaPx7
set_option linter.unusedVariables false
set_option linter.unusedSimpArgs false
set_option linter.unusedSectionVars false
namespace Go.Proofs.Ytannphcahjchjaa.Pure
open Go.RowKit Go.Proofs.Ytannphcahjchjaa.P Go.Proofs.YtannphcahjchjaaW.PrintWords Go.Proofs.YtannphcahjchjaaW.PrintLast Go.Proofs.Ytannphcahjchjaa.Aids Go.Proofs.Ytannphcahjchjaa.Chars
theorem bit_one (x : Int) (h0 : 0 ≤ x) (h1 : x ≤ 255) : Go.bits .and .u8 x 1 = 0 ∨ Go.bits .and .u8 x 1 = 1 := by
  have all : ∀ y : Fin 256, Go.bits .and .u8 (y.val : Int) 1 = 0 ∨ Go.bits .and .u8 (y.val : Int) 1 = 1 := by decide +kernel
  have := all ⟨x.toNat, by omega⟩
  rwa [show ((⟨x.toNat, by omega⟩ : Fin 256).val : Int) = x from Int.toNat_of_nonneg h0] at this
section
variable (s a : List Int) (hs : s.length ≤ 200) (ha : a.length ≤ 20) (hbs : byte s) (hba : byte a)
include hs ha hbs hba
theorem trims_end (f : List Int) (hf : f.length ≤ 20) (hfb : ∀ c ∈ f, isBl c) (hbf : byte f) : Ev (fun k => letterboxlaw01_CharsTrims.j2 k (strOfNums s) (strOfNums (trim s)) (strOfNums f) false) true := by
  have hl := trim_len s
  refine st (fun k => by rw [letterboxlaw01_CharsTrims.j2]) ?_
  refine no (by simp) ?_
  simp only [strOfNums_size, str_append]
  refine yes (by omega) (bnd (trimS (f ++ s) (by simp; omega) (byte_append hbf hbs)) ?_)
  rw [trim_front hfb]
  refine yes rfl (yes (by omega) (bnd (trimS (s ++ f) (by simp; omega) (byte_append hbs hbf)) ?_))
  rw [trim_back hfb]
  refine yes rfl (bnd (trimS (trim s) (by omega) (trim_byte hbs)) ?_)
  rw [trim_idem]
  refine yes rfl (bnd (trimS f (by omega) hbf) ?_)
  rw [trim_all hfb]
  exact fin (by rw [(str_toList_nil []).2 rfl]; rfl)
theorem trims_l0 (d : Nat) : ∀ (i : Nat) (f : List Int), a.length - i ≤ d → i ≤ a.length → f.length ≤ i → (∀ c ∈ f, isBl c) → byte f → Ev (fun k => letterboxlaw01_CharsTrims.l0 k (strOfNums s) a (strOfNums (trim s)) (strOfNums f) (i : Int)) true := by
  have hl := trim_len s
  have stop : ∀ f : List Int, f.length ≤ a.length → (∀ c ∈ f, isBl c) → byte f → Ev (fun k => letterboxlaw01_CharsTrims.l0 k (strOfNums s) a (strOfNums (trim s)) (strOfNums f) (a.length : Int)) true := by
    intro f hfl hfb hbf
    have go := trims_end s a hs ha hbs hba f (by omega) hfb hbf
    refine st (fun k => by rw [letterboxlaw01_CharsTrims.l0]) ?_
    refine no (by omega) ?_
    simp only [strOfNums_size, blank_f, str_bt _ (trim_byte hbs)]
    cases e : trim s with
    | nil => exact no (by simp) (by rw [← e]; exact go)
    | cons c t =>
      have hc := trim_head e
      rw [show rd (c :: t) 0 = c from rfl, decide_eq_false hc]
      have hlt : t.length + 1 ≤ 200 := by rw [e] at hl; simp only [List.length_cons] at hl; omega
      have e1 : wrap64 (((c :: t).length : Int) - 1) = (t.length : Int) := by rw [List.length_cons, w64 (by omega) (by omega)]; omega
      rw [e1]
      clear e1
      simp only [List.length_cons]
      refine yes (by omega) (yes (by omega) (bs (no (by simp) (yes (by omega) (yes (by omega) (bs ?_))))))
      have hz : ¬ isBl (rd (c :: t) (t.length : Int)) := by
        rcases List.eq_nil_or_concat (c :: t) with h0 | ⟨m, z, h0⟩
        · cases h0
        · rw [List.concat_eq_append] at h0
          have hm : m.length = t.length := by have := congrArg List.length h0; simp at this; omega
          have hr : rd (c :: t) (t.length : Int) = z := by rw [h0, ← hm, rd_last]
          rw [hr]; exact trim_last (e.trans h0)
      rw [decide_eq_false hz, ← e]
      exact go
  induction d with
  | zero =>
    intro i f hd hi hfl hfb hbf
    have e : i = a.length := by omega
    subst e; exact stop f hfl hfb hbf
  | succ d ih =>
    intro i f hd hi hfl hfb hbf
    rcases Nat.lt_or_ge i a.length with hlt | hge
    · have e1 : wrap64 ((i : Int) + 1) = ((i + 1 : Nat) : Int) := by rw [w64 (by omega) (by omega)]; omega
      have hx := hba _ (rd_mem a i hlt)
      have h32 : (⟨#[32, 9]⟩ : ByteArray).extract 0 1 = strOfNums [32] := by decide +kernel
      have h9 : (⟨#[32, 9]⟩ : ByteArray).extract 1 2 = strOfNums [9] := by decide +kernel
      refine st (fun k => by rw [letterboxlaw01_CharsTrims.l0]) ?_
      rw [e1]
      clear e1
      rcases bit_one _ hx.1 hx.2 with hb | hb
      · rw [hb]
        simp only [show ((0 : Int) + 1) % 256 = 1 from rfl, show (0 : Int).toNat = 0 from rfl, show (1 : Int).toNat = 1 from rfl, h32, strOfNums_size, str_append, List.length_cons, List.length_nil]
        refine yes (by omega) (yes (by omega) (yes (by omega) (yes (by omega) (yes (by omega) (yes (by omega) ?_)))))
        refine ih (i + 1) (f ++ [32]) (by omega) hlt (by simp; omega) ?_ (byte_append hbf (byte_one (by omega) (by omega)))
        intro c hc
        rcases List.mem_append.1 hc with hc | hc
        · exact hfb c hc
        · rw [List.mem_singleton.1 hc]; exact .inl rfl
      · rw [hb]
        simp only [show ((1 : Int) + 1) % 256 = 2 from rfl, show (2 : Int).toNat = 2 from rfl, show (1 : Int).toNat = 1 from rfl, h9, strOfNums_size, str_append, List.length_cons, List.length_nil]
        refine yes (by omega) (yes (by omega) (yes (by omega) (yes (by omega) (yes (by omega) (yes (by omega) ?_)))))
        refine ih (i + 1) (f ++ [9]) (by omega) hlt (by simp; omega) ?_ (byte_append hbf (byte_one (by omega) (by omega)))
        intro c hc
        rcases List.mem_append.1 hc with hc | hc
        · exact hfb c hc
        · rw [List.mem_singleton.1 hc]; exact .inr rfl
    · have e : i = a.length := by omega
      subst e; exact stop f hfl hfb hbf
end
theorem CharsTrims : letterboxlaw01_CharsTrims.Pure := by
  intro a0 l1 h0 h1 h2 h3
  have hb := byte_wf h3
  have hl := size_bytes a0
  refine Ev.rounds (g := fun k => letterboxlaw01_CharsTrims.f k a0 l1) ?_
  show Ev (fun k => (letterboxlaw01_awake.f k).bind _) _
  refine bnd awake (yes rfl ?_)
  by_cases hs : (a0.size : Int) > 200
  · refine yes hs (st (fun k => by rw [letterboxlaw01_CharsTrims.j0]) ?_)
    exact yes rfl (fin rfl)
  · refine no hs (st (fun k => by rw [letterboxlaw01_CharsTrims.j0]) ?_)
    by_cases ha : (l1.length : Int) > 20
    · exact yes (decide_eq_true ha) (fin rfl)
    · refine no (by simpa using ha) ?_
      rw [← str_bytes a0]
      refine bnd (trimS (bytesOf a0) (by omega) (byte_bytes a0)) ?_
      exact trims_l0 (bytesOf a0) l1 (by omega) (by omega) (byte_bytes a0) hb l1.length 0 [] (by omega) (by omega) (by simp) (fun c hc => by cases hc) byte_nil
end Go.Proofs.Ytannphcahjchjaa.Pure
