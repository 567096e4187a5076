/- A header of three fields, the middle one over lines: its fields and their bodies, in plain words. -/
import Derived.Test.YtckmfmfhhojmfaaFo1
set_option linter.unusedVariables false
set_option linter.unusedSimpArgs false
namespace Go.Proofs.Ytckmfmfhhojmfaa.Fo
open Go.RowKit Go.Proofs.Ytckmfmfhhojmfaa.P Go.Proofs.YtckmfmfhhojmfaaW.PrintWords Go.Proofs.YtckmfmfhhojmfaaW.PrintLast Go.Proofs.YtckmfmfhhojmfaaW.PrintMore Go.Proofs.Ytckmfmfhhojmfaa.Aids Go.Proofs.Ytckmfmfhhojmfaa.Lin Go.Proofs.Ytckmfmfhhojmfaa.Nam Go.Proofs.Ytckmfmfhhojmfaa.Chn Go.Proofs.Ytckmfmfhhojmfaa.Chars
def L0 : List Int := [88, 45, 66, 101, 102, 111, 114, 101, 58, 32, 49]
def preS : List Int := [83, 117, 98, 106, 101, 99, 116, 58]
def A2 : List Int := [88, 45, 65, 102, 116, 101, 114, 58, 32, 50]
def nX : List Int := [88, 45, 66, 101, 102, 111, 114, 101]
def nS : List Int := [83, 117, 98, 106, 101, 99, 116]
def nA : List Int := [88, 45, 65, 102, 116, 101, 114]
def body4 : List Int := [98, 111, 100, 121]
def all3 (m0 : List Int) (ms : List (List Int)) : List (List Int) := L0 :: (preS ++ m0) :: (ms ++ [A2])
def text (m0 : List Int) (ms : List (List Int)) : List Int := raw (all3 m0 ms ++ [[]]) ++ body4
def F1 : S31 := ⟨strOfNums nX, 0, 9, 13⟩
def F2 (e : Nat) : S31 := ⟨strOfNums nS, 13, 21, (e : Int)⟩
def F3 (e : Nat) : S31 := ⟨strOfNums nA, (e : Int), (e : Int) + 8, ((e + 12 : Nat) : Int)⟩
theorem lay_drop (a c : List (List Int)) (at_ : Nat) : (lay at_ (a ++ c)).drop a.length = lay (at_ + (raw a).length) c := by
  rw [lay_append, List.drop_left' (lay_length a at_)]
theorem lay_rd (a : List (List Int)) (t : List Int) (c : List (List Int)) (at_ : Nat) : rd_T40 (lay at_ (a ++ t :: c)) (a.length : Int) = ⟨((at_ + (raw a).length : Nat) : Int), ((at_ + (raw a).length + t.length : Nat) : Int), ((at_ + (raw a).length + t.length + 2 : Nat) : Int)⟩ := by
  rw [lay_append, ← lay_length a at_]
  exact rd40_app _ _ _
theorem raw_drop (a c : List (List Int)) (r : List Int) : (raw (a ++ c) ++ r).drop (raw a).length = raw c ++ r := by
  rw [raw_append, List.append_assoc, List.drop_left']
  rfl
/-- lines that go on -/
theorem goes_all (b : List Int) (x7 : Int) (T : List (List Int)) (w : List Int) (hb : b = raw T ++ w) (hbb : byte b) (hT : T.length ≤ 1000) (m : List S31) (hm : m.length ≤ 1000) (r : List S31 × Int) : ∀ (ms a c : List (List Int)) (y : S31), T = a ++ (ms ++ c) → (∀ t ∈ ms, ∃ u, t = 32 :: u) → y.f3 = ((raw a).length : Int) →
    Ev (fun k => header_Of.l0 k b x7 (m ++ [⟨y.f0, y.f1, y.f2, (((raw (a ++ ms)).length : Nat) : Int)⟩]) true (lay 0 T) ((lay 0 T).length : Int) ((a.length + ms.length : Nat) : Int)) r → Ev (fun k => header_Of.l0 k b x7 (m ++ [y]) true (lay 0 T) ((lay 0 T).length : Int) (a.length : Int)) r
  | [], a, c, y, hTe, hms, hy, h => by
    rw [List.append_nil, ← hy] at h
    exact h
  | t :: ms, a, c, y, hTe, hms, hy, h => by
    obtain ⟨u, hu⟩ := hms t List.mem_cons_self
    have hTe2 : T = a ++ t :: (ms ++ c) := hTe
    have hx := lay_rd a t (ms ++ c) 0
    rw [← hTe2] at hx
    simp only [Nat.zero_add] at hx
    have hdr : b.drop (raw a).length = t ++ (13 :: 10 :: (raw (ms ++ c) ++ w)) := by
      rw [hb, hTe2, raw_drop]
      simp [raw]
    have hle : (raw a).length ≤ b.length := by rw [hb, hTe2, raw_append]; simp only [List.length_append]; omega
    have htx := txt_row b (raw a).length t _ hdr hle
    refine st_goes (x := ⟨((raw a).length : Int), (((raw a).length + t.length : Nat) : Int), (((raw a).length + t.length + 2 : Nat) : Int)⟩) ?_ ?_ hx ?_ hm ?_
    · rw [lay_length, hTe2]; simp only [List.length_append, List.length_cons]; omega
    · rw [lay_length]; exact hT
    · dsimp only
      rw [htx, hu, goes_cons 32 u]
      · rfl
      · rw [← hu]
        intro z hz
        exact hbb z (List.mem_of_mem_drop (i := (raw a).length) (by rw [hdr]; exact List.mem_append_left _ hz))
    · have hra : (raw (a ++ [t])).length = (raw a).length + t.length + 2 := by rw [raw_append]; simp [raw]; omega
      have ih := goes_all b x7 T w hb hbb hT m hm r ms (a ++ [t]) c ⟨y.f0, y.f1, y.f2, (((raw a).length + t.length + 2 : Nat) : Int)⟩ (by rw [hTe2]; simp) (fun z hz => hms z (List.mem_cons_of_mem _ hz)) (by rw [hra])
      have hl : (a ++ [t]).length = a.length + 1 := by simp
      rw [hl] at ih
      refine ih ?_
      rw [show a ++ [t] ++ ms = a ++ t :: ms by simp, show a.length + 1 + ms.length = a.length + (t :: ms).length by simp; omega]
      exact h
theorem of_text (m0 : List Int) (ms : List (List Int)) (hb : byte (text m0 ms)) (h0 : ∀ c ∈ m0, c ≠ 10) (hms : ∀ t ∈ ms, (∃ u, t = 32 :: u) ∧ ∀ c ∈ t, c ≠ 10) (hl : (text m0 ms).length ≤ 600) (hml : ms.length ≤ 10) :
    ∃ e, e = 21 + (raw (m0 :: ms)).length ∧ (text m0 ms).length = e + 18 ∧ Ev (fun k => header_Of.f k (text m0 ms) 0 ((text m0 ms).length : Int)) ([F1, F2 e, F3 e], ((e + 14 : Nat) : Int)) := by
  obtain ⟨b, hbe⟩ : ∃ b, b = text m0 ms := ⟨_, rfl⟩
  obtain ⟨T, hTe⟩ : ∃ T, T = all3 m0 ms := ⟨_, rfl⟩
  rw [← hbe] at hb hl ⊢
  have hbT : b = raw (T ++ [[]]) ++ body4 := by rw [hbe, hTe]; rfl
  have hbT2 : b = raw T ++ (13 :: 10 :: body4) := by rw [hbT, raw_append]; simp [raw]
  have hTl : T.length = ms.length + 3 := by rw [hTe]; simp [all3]
  obtain ⟨e, he⟩ : ∃ e, e = 21 + (raw (m0 :: ms)).length := ⟨_, rfl⟩
  have hrT : (raw T).length = e + 12 := by
    rw [hTe, he]
    show (raw (L0 :: (preS ++ m0) :: (ms ++ [A2]))).length = _
    have : (raw (ms ++ [A2])).length = (raw ms).length + 12 := by rw [raw_append]; simp [raw, A2]
    simp only [raw, List.length_append, List.length_cons, this]
    simp [L0, preS]
    omega
  have hblen : b.length = e + 18 := by rw [hbT2]; simp [hrT, body4]
  have hno : ∀ t ∈ T ++ [[]], ∀ c ∈ t, c ≠ 10 := by
    intro t ht c hc
    rw [hTe] at ht
    simp only [all3, List.mem_append, List.mem_cons, List.mem_singleton, List.not_mem_nil, or_false] at ht
    rcases ht with (rfl | rfl | ht | rfl) | rfl
    · revert c hc; decide
    · rcases List.mem_append.1 hc with hc | hc
      · have : ∀ c ∈ preS, c ≠ 10 := by decide
        exact this c hc
      · exact h0 c hc
    · exact (hms t ht).2 c hc
    · revert c hc; decide
    · cases hc
  have hne : ∀ t ∈ T, t ≠ [] := by
    intro t ht
    rw [hTe] at ht
    simp only [all3, List.mem_append, List.mem_cons, List.mem_singleton, List.not_mem_nil, or_false] at ht
    rcases ht with rfl | rfl | ht | rfl
    · decide
    · simp [preS]
    · obtain ⟨u, rfl⟩ := (hms t ht).1
      simp
    · decide
  obtain ⟨X, hX⟩ : ∃ X, X = ln_from b b.length (0 + (raw (T ++ [[]])).length) := ⟨_, rfl⟩
  obtain ⟨ls, hls⟩ : ∃ ls, ls = ln_from b b.length 0 := ⟨_, rfl⟩
  have hlsT : ls = lay 0 T ++ (⟨((e + 12 : Nat) : Int), ((e + 12 : Nat) : Int), ((e + 14 : Nat) : Int)⟩ :: X) := by
    rw [hls, from_lay b b.length (Nat.le_refl _) (T ++ [[]]) 0 body4 (by rw [List.take_of_length_le (Nat.le_refl _), List.drop_zero]; exact hbT) hno, ← hX, lay_append, Nat.zero_add, hrT, List.append_assoc]
    rfl
  have hlen : ls.length ≤ b.length := by rw [hls]; exact ln_from_len b b.length b.length 0 (by omega)
  have hll : ls.length = T.length + (X.length + 1) := by rw [hlsT]; simp [lay_length]
  have hemp : ln_emp ls = T.length := by
    rw [hlsT, emp_lay T 0 _ hne]
    show T.length + (if ((e + 12 : Nat) : Int) = ((e + 12 : Nat) : Int) then 0 else _) = _
    rw [if_pos rfl]
    rfl
  have hof : lines_Of.f b 0 (b.length : Int) = some ls := by
    rw [of_eq b 0 _ (by omega), if_pos ⟨by omega, by omega, by omega⟩, hls]
    rfl
  have hem : lines_Empty.f ls = some (T.length : Int) := by
    show (if ls.length ≤ 100000 then some (ln_emr ls) else none) = _
    rw [if_pos (by omega)]
    unfold ln_emr
    rw [hemp, if_pos (by omega)]
  have hrd : rd_T40 ls (T.length : Int) = ⟨((e + 12 : Nat) : Int), ((e + 12 : Nat) : Int), ((e + 14 : Nat) : Int)⟩ := by
    rw [hlsT]
    have := rd40_app (lay 0 T) ⟨((e + 12 : Nat) : Int), ((e + 12 : Nat) : Int), ((e + 14 : Nat) : Int)⟩ X
    rw [lay_length] at this
    exact this
  have htk : ls.take T.length = lay 0 T := by
    rw [hlsT, List.take_left']
    exact lay_length T 0
  refine ⟨e, he, hblen, ?_⟩
  unfold header_Of.f
  rw [hof]
  have hw : Aside0 (wrap64 ((ls.length : Int) - 1) = ((ls.length - 1 : Nat) : Int)) := ⟨by rw [w64 (by omega) (by omega)]; omega⟩
  refine bs ?_
  refine no (by omega) ?_
  rw [hw.out, hem]
  refine yes (by omega) ?_
  refine yes (by omega) ?_
  refine bs ?_
  refine yes (by omega) ?_
  refine yes (by omega) ?_
  refine yes (by omega) ?_
  refine yes (by omega) ?_
  rw [hrd, Int.toNat_natCast, htk]
  refine st (fun k => by rw [header_Of.j0]) ?_
  clear hw hemp hem hof hrd htk hlsT hll hlen hls hX
  have hTd : T = [] ++ L0 :: ((preS ++ m0) :: (ms ++ [A2])) := by rw [hTe]; rfl
  have hTd2 : T = [L0] ++ (preS ++ m0) :: (ms ++ [A2]) := by rw [hTe]; rfl
  have hTd3 : T = [L0, preS ++ m0] ++ (ms ++ [A2]) := by rw [hTe]; rfl
  have hTd4 : T = (L0 :: (preS ++ m0) :: ms) ++ A2 :: [] := by rw [hTe]; rfl
  have hr1 : (raw [L0]).length = 13 := rfl
  have hr2 : (raw [L0, preS ++ m0]).length = 13 + (preS ++ m0).length + 2 := by simp [raw, L0]; omega
  have hr3 : (raw (L0 :: (preS ++ m0) :: ms)).length = e := by
    rw [he]
    simp [raw, L0, preS]; omega
  have hdrop : ∀ (a : List (List Int)) (t : List Int) (c : List (List Int)), T = a ++ t :: c → b.drop (raw a).length = t ++ (13 :: 10 :: (raw c ++ (13 :: 10 :: body4))) ∧ (raw a).length ≤ b.length := by
    intro a t c h
    refine ⟨?_, ?_⟩
    · rw [hbT2, h, raw_drop]
      simp [raw]
    · rw [hbT2, h, raw_append]; simp only [List.length_append]; omega
  have hbyte : ∀ (a : List (List Int)) (t : List Int) (c : List (List Int)), T = a ++ t :: c → byte t := by
    intro a t c h z hz
    exact hb z (List.mem_of_mem_drop (i := (raw a).length) (by rw [(hdrop a t c h).1]; exact List.mem_append_left _ hz))
  -- the first field
  have hx0 := lay_rd [] L0 ((preS ++ m0) :: (ms ++ [A2])) 0
  rw [← hTd] at hx0
  have ht0 := txt_row b 0 L0 _ (hdrop [] L0 _ hTd).1 (Nat.zero_le _)
  refine st_named (i := 0) (m := []) (x := ⟨0, 11, 13⟩) (nm := strOfNums nX) (a := 9) (by rw [lay_length]; omega) (by rw [lay_length]; omega) hx0 ?_ ?_ (by simp) (by decide) (by decide) ?_
  · show header_goes.f (ln_txt b 0 11) = _
    rw [show ln_txt b 0 11 = strOfNums L0 from ht0]
    decide +kernel
  · show Ev (fun k => header_named.f k (ln_txt b 0 11)) _
    rw [show ln_txt b 0 11 = strOfNums L0 from ht0]
    exact named_is nX [32, 49] (by intro c hc; revert c hc; decide) (by decide) (by decide) (by decide) (by decide)
  -- the second
  have hx1 := lay_rd [L0] (preS ++ m0) (ms ++ [A2]) 0
  rw [← hTd2, hr1] at hx1
  have ht1 := txt_row b 13 (preS ++ m0) _ (by have := (hdrop [L0] (preS ++ m0) _ hTd2).1; rw [hr1] at this; exact this) (by omega)
  have hb1 : byte (preS ++ m0) := hbyte _ _ _ hTd2
  refine st_named (i := 1) (m := [F1]) (x := ⟨13, ((13 + (preS ++ m0).length : Nat) : Int), ((13 + (preS ++ m0).length + 2 : Nat) : Int)⟩) (nm := strOfNums nS) (a := 8) (by rw [lay_length]; omega) (by rw [lay_length]; omega) (by simpa using hx1) ?_ ?_ (by decide) (by decide) ⟨show (0 : Int) ≤ 13 by decide, show (13 : Int) ≤ 100000 by decide⟩ ?_
  · show header_goes.f (ln_txt b ((13 : Nat) : Int) _) = _
    rw [ht1]
    show header_goes.f (strOfNums (83 :: (preS.drop 1 ++ m0))) = _
    rw [goes_cons]
    · rfl
    · exact hb1
  · show Ev (fun k => header_named.f k (ln_txt b ((13 : Nat) : Int) _)) _
    rw [ht1]
    exact named_is nS m0 hb1 (by decide) (by decide) (by decide) (by decide)
  -- the lines that go on
  have hbT3 : b = raw T ++ (13 :: 10 :: body4) := hbT2
  refine goes_all b _ T _ hbT3 hb (by omega) [F1] (by decide) _ ms [L0, preS ++ m0] [A2] ⟨strOfNums nS, 13, 21, ((13 + (preS ++ m0).length + 2 : Nat) : Int)⟩ hTd3 (fun t ht => (hms t ht).1) (by rw [hr2]) ?_
  -- the third
  have hx2 := lay_rd (L0 :: (preS ++ m0) :: ms) A2 [] 0
  rw [← hTd4, Nat.zero_add, hr3] at hx2
  have ht2 := txt_row b e A2 _ (by have := (hdrop (L0 :: (preS ++ m0) :: ms) A2 _ hTd4).1; rw [hr3] at this; exact this) (by omega)
  have hra : ((raw ([L0, preS ++ m0] ++ ms)).length : Nat) = e := hr3
  rw [hra]
  have hli : [L0, preS ++ m0].length + ms.length = (L0 :: (preS ++ m0) :: ms).length := by simp; omega
  rw [hli]
  refine st_named (m := [F1, F2 e]) (x := ⟨(e : Int), ((e + 10 : Nat) : Int), ((e + 12 : Nat) : Int)⟩) (nm := strOfNums nA) (a := 8) (by rw [lay_length, hTl]; simp) (by rw [lay_length]; omega) hx2 ?_ ?_ (by simp) (by decide) ?_ ?_
  · show header_goes.f (ln_txt b (e : Int) ((e + A2.length : Nat) : Int)) = _
    rw [ht2]
    decide +kernel
  · show Ev (fun k => header_named.f k (ln_txt b (e : Int) ((e + A2.length : Nat) : Int))) _
    rw [ht2]
    exact named_is nA [32, 50] (by intro c hc; revert c hc; decide) (by decide) (by decide) (by decide) (by decide)
  · constructor
    · exact Int.natCast_nonneg _
    · show (e : Int) ≤ 100000
      omega
  · refine st (fun k => by rw [header_Of.l0]) ?_
    refine no ?_ (fin ?_)
    · rw [lay_length, hTl]; simp only [List.length_cons]; omega
    · rfl
end Go.Proofs.Ytckmfmfhhojmfaa.Fo
