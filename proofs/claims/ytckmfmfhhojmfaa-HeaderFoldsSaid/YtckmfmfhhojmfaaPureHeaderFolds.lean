/- A field that goes on over lines has all of them in one: the law in plain words, proved. -/
import Derived.Test.YtckmfmfhhojmfaaFo2
import Derived.Test.YtckmfmfhhojmfaaPx5
set_option linter.unusedVariables false
set_option linter.unusedSimpArgs false
namespace Go.Proofs.Ytckmfmfhhojmfaa.Pure
open Go.RowKit Go.Proofs.Ytckmfmfhhojmfaa.P Go.Proofs.YtckmfmfhhojmfaaW.PrintWords Go.Proofs.YtckmfmfhhojmfaaW.PrintLast Go.Proofs.Ytckmfmfhhojmfaa.Aids Go.Proofs.Ytckmfmfhhojmfaa.Lin Go.Proofs.Ytckmfmfhhojmfaa.Nam Go.Proofs.Ytckmfmfhhojmfaa.Chn Go.Proofs.Ytckmfmfhhojmfaa.Fo Go.Proofs.Ytckmfmfhhojmfaa.Chars
/-- words with a blank ahead of each -/
def blk (ws : List (List Int)) : List Int := (ws.map (fun w => 32 :: w)).flatten
/-- words with a blank between -/
def joinw (ws : List (List Int)) : List Int := (blk ws).drop 1
def good (w : List Int) : Prop := w ≠ [] ∧ w.length ≤ 20 ∧ ∀ c ∈ w, 33 ≤ c ∧ c ≤ 126
theorem blk_snoc (ws : List (List Int)) (w : List Int) : blk (ws ++ [w]) = blk ws ++ 32 :: w := by simp [blk]
theorem joinw_snoc (ws : List (List Int)) (w : List Int) (h : ws ≠ []) : joinw (ws ++ [w]) = joinw ws ++ 32 :: w := by
  unfold joinw
  rw [blk_snoc, List.drop_append_of_le_length]
  cases ws with
  | nil => exact absurd rfl h
  | cons a t => simp [blk]
theorem joinw_one (w : List Int) : joinw [w] = w := by simp [joinw, blk]
theorem joinw_nil {ws : List (List Int)} (hg : ∀ w ∈ ws, good w) : joinw ws = [] ↔ ws = [] := by
  cases ws with
  | nil => simp [joinw, blk]
  | cons a t =>
    have := (hg a List.mem_cons_self).1
    simp [joinw, blk, this]
theorem good_bl {w : List Int} (h : good w) : ∀ c ∈ w, ¬ isBl c := by
  intro c hc
  have := h.2.2 c hc
  rintro (e | e) <;> omega
theorem trim_blk (ws : List (List Int)) (hg : ∀ w ∈ ws, good w) : trim (blk ws) = joinw ws := by
  rcases List.eq_nil_or_concat ws with rfl | ⟨m, w, rfl⟩
  · rfl
  · rw [List.concat_eq_append] at hg ⊢
    have hw := hg w (List.mem_append_right _ List.mem_cons_self)
    have hj : ∃ j, blk (m ++ [w]) = 32 :: j ∧ joinw (m ++ [w]) = j ∧ (∃ c t, j = c :: t ∧ ¬ isBl c) := by
      cases m with
      | nil =>
        refine ⟨w, by simp [blk], joinw_one w, ?_⟩
        cases w with
        | nil => exact absurd rfl hw.1
        | cons c t => exact ⟨c, t, rfl, good_bl hw c List.mem_cons_self⟩
      | cons a t =>
        have ha := hg a List.mem_cons_self
        refine ⟨a ++ blk (t ++ [w]), by simp [blk], by simp [joinw, blk], ?_⟩
        cases a with
        | nil => exact absurd rfl ha.1
        | cons c u => exact ⟨c, u ++ blk (t ++ [w]), rfl, good_bl ha c List.mem_cons_self⟩
    obtain ⟨j, h1, h2, c, t, h3, h4⟩ := hj
    rw [h2, h1]
    show trim ([32] ++ j) = j
    rw [trim_front (f := [32]) (by intro c hc; rw [List.mem_singleton.1 hc]; exact .inl rfl)]
    unfold trim
    rw [h3, trimF_stay t h4, ← h3]
    rcases List.eq_nil_or_concat w with e | ⟨u, d, e⟩
    · exact absurd e hw.1
    · rw [List.concat_eq_append] at e
      have hd : ¬ isBl d := good_bl hw d (by rw [e]; exact List.mem_append_right _ List.mem_cons_self)
      have hjd : ∃ v, j = v ++ [d] := by
        have hb2 : blk (m ++ [w]) = (blk m ++ 32 :: u) ++ [d] := by rw [blk_snoc, e]; simp
        rw [h1] at hb2
        cases hq : blk m ++ 32 :: u with
        | nil => simp at hq
        | cons x y =>
          rw [hq] at hb2
          injection hb2 with _ h6
          exact ⟨y, h6⟩
      obtain ⟨v, hv⟩ := hjd
      rw [hv, trimE_snoc, if_neg hd]
/-- the lines in the middle -/
def mid (ws : List (List Int)) : List (List Int) := if ws = [] then [[]] else ws.map (fun w => 32 :: w)
theorem mid_flat (ws : List (List Int)) : (mid ws).flatten = blk ws := by
  unfold mid blk
  by_cases h : ws = []
  · rw [if_pos h, h]; rfl
  · rw [if_neg h]
theorem blk_len (ws : List (List Int)) (hg : ∀ w ∈ ws, good w) : (blk ws).length ≤ ws.length * 21 := by
  induction ws with
  | nil => simp [blk]
  | cons a t ih =>
    have h1 := (hg a List.mem_cons_self).2.1
    have h2 := ih (fun w hw => hg w (List.mem_cons_of_mem _ hw))
    have h3 : (blk (a :: t)).length = a.length + 1 + (blk t).length := by simp [blk]; omega
    rw [h3, List.length_cons]
    omega
theorem raw_len (ws : List (List Int)) : (raw (ws.map (fun w => 32 :: w))).length = (blk ws).length + 2 * ws.length := by
  induction ws with
  | nil => rfl
  | cons a t ih =>
    simp only [List.map_cons, raw, List.length_append, List.length_cons, ih, blk, List.flatten_cons]
    omega
theorem find_1 (e : Nat) (name : List Int) (h1 : sm (strOfNums nX) (strOfNums name) = false) (h2 : sm (strOfNums nS) (strOfNums name) = true) : fd_find [F1, F2 e, F3 e] (strOfNums name) = (F2 e, true) := by
  have hx : fx (fun x : S31 => sm x.f0 (strOfNums name)) [F1, F2 e, F3 e] = 1 := by
    show (if sm (strOfNums nX) (strOfNums name) = true then 0 else (if sm (strOfNums nS) (strOfNums name) = true then 0 else _) + 1) = 1
    rw [if_neg (by rw [h1]; decide), if_pos h2]
  unfold fd_find
  rw [hx, if_pos (by simp)]
  rfl
theorem find_2 (e : Nat) (name : List Int) (h1 : sm (strOfNums nX) (strOfNums name) = false) (h2 : sm (strOfNums nS) (strOfNums name) = false) (h3 : sm (strOfNums nA) (strOfNums name) = true) : fd_find [F1, F2 e, F3 e] (strOfNums name) = (F3 e, true) := by
  have hx : fx (fun x : S31 => sm x.f0 (strOfNums name)) [F1, F2 e, F3 e] = 2 := by
    show (if sm (strOfNums nX) (strOfNums name) = true then 0 else (if sm (strOfNums nS) (strOfNums name) = true then 0 else (if sm (strOfNums nA) (strOfNums name) = true then 0 else _) + 1) + 1) = 2
    rw [if_neg (by rw [h1]; decide), if_neg (by rw [h2]; decide), if_pos h3]
  unfold fd_find
  rw [hx, if_pos (by simp)]
  rfl
theorem find_3 (e : Nat) (name : List Int) (h1 : sm (strOfNums nX) (strOfNums name) = false) (h2 : sm (strOfNums nS) (strOfNums name) = false) (h3 : sm (strOfNums nA) (strOfNums name) = false) : fd_find [F1, F2 e, F3 e] (strOfNums name) = (⟨⟨#[]⟩, 0, 0, 0⟩, false) := by
  have hx : fx (fun x : S31 => sm x.f0 (strOfNums name)) [F1, F2 e, F3 e] = 3 := by
    show (if sm (strOfNums nX) (strOfNums name) = true then 0 else (if sm (strOfNums nS) (strOfNums name) = true then 0 else (if sm (strOfNums nA) (strOfNums name) = true then 0 else 0 + 1) + 1) + 1) = 3
    rw [if_neg (by rw [h1]; decide), if_neg (by rw [h2]; decide), if_neg (by rw [h3]; decide)]
  unfold fd_find
  rw [hx, if_neg (by simp)]
theorem fits_3 (e : Nat) (name : List Int) (h : name.length ≤ 100) : fd_fits [F1, F2 e, F3 e] (strOfNums name) = true := by
  unfold fd_fits
  rw [Bool.and_eq_true, decide_eq_true_eq, List.all_eq_true]
  refine ⟨by rw [strOfNums_size]; omega, fun x hx => ?_⟩
  rw [decide_eq_true_eq]
  simp only [List.mem_cons, List.not_mem_nil, or_false] at hx
  rcases hx with rfl | rfl | rfl
  · show (strOfNums nX).size ≤ _; rw [strOfNums_size]; decide
  · show (strOfNums nS).size ≤ _; rw [strOfNums_size]; decide
  · show (strOfNums nA).size ≤ _; rw [strOfNums_size]; decide
theorem value_3 (b : List Int) (e : Nat) (name : List Int) (hl : b.length ≤ 600) (h : name.length ≤ 100) {r : ByteArray} (hv : Ev (fun k => fd_value k b [F1, F2 e, F3 e] (strOfNums name)) r) : Ev (fun k => header_Value.f k b [F1, F2 e, F3 e] (strOfNums name)) r := by
  unfold header_Value.f
  exact yes ⟨by omega, by simp, fits_3 e name h⟩ hv
theorem fd_yes {k : Nat} {b : List Int} {l : List S31} {name : ByteArray} {x : S31} (h : fd_find l name = (x, true)) : fd_value k b l name = chars_Trim.f k (bd_body b x.f2 x.f3) := by
  unfold fd_value
  rw [h]
  rfl
theorem fd_no {k : Nat} {b : List Int} {l : List S31} {name : ByteArray} {x : S31} (h : fd_find l name = (x, false)) : fd_value k b l name = some ⟨#[]⟩ := by
  unfold fd_value
  rw [h]
  rfl
theorem byte_blk {ws : List (List Int)} (hg : ∀ w ∈ ws, good w) : byte (blk ws) := by
  intro c hc
  unfold blk at hc
  obtain ⟨t, ht, hct⟩ := List.mem_flatten.1 hc
  obtain ⟨w, hw, rfl⟩ := List.mem_map.1 ht
  rcases List.mem_cons.1 hct with rfl | hct
  · omega
  · have := (hg w hw).2.2 c hct
    omega
theorem byte_raw {ts : List (List Int)} (h : ∀ t ∈ ts, byte t) : byte (raw ts) := by
  induction ts with
  | nil => exact byte_nil
  | cons t ts ih =>
    exact byte_append (h t List.mem_cons_self) (byte_cons (by omega) (byte_cons (by omega) (ih fun u hu => h u (List.mem_cons_of_mem _ hu))))
theorem byte_word {w : List Int} (h : good w) : byte (32 :: w) := byte_cons (by omega) (fun c hc => by have := h.2.2 c hc; omega)
theorem mid_split (ws : List (List Int)) (hg : ∀ w ∈ ws, good w) : ∃ m0 ms, mid ws = m0 :: ms ∧ byte m0 ∧ (∀ c ∈ m0, c ≠ 10) ∧ (∀ t ∈ ms, byte t ∧ (∃ u, t = 32 :: u) ∧ ∀ c ∈ t, c ≠ 10) ∧ ms.length ≤ ws.length := by
  have h10 : ∀ w, good w → ∀ c ∈ (32 :: w : List Int), c ≠ 10 := by
    intro w hw c hc
    rcases List.mem_cons.1 hc with rfl | hc
    · decide
    · have := hw.2.2 c hc; omega
  cases ws with
  | nil => exact ⟨[], [], rfl, byte_nil, fun c hc => by simp at hc, fun t ht => by simp at ht, Nat.le_refl _⟩
  | cons a t =>
    have ha := hg a List.mem_cons_self
    refine ⟨32 :: a, t.map (fun w => 32 :: w), rfl, byte_word ha, h10 a ha, ?_, by simp⟩
    intro u hu
    obtain ⟨w, hw, rfl⟩ := List.mem_map.1 hu
    have hw' := hg w (List.mem_cons_of_mem _ hw)
    exact ⟨byte_word hw', ⟨w, rfl⟩, h10 w hw'⟩
def aft : List Int := [88, 45, 65, 102, 116, 101, 114, 58, 32, 50, 13, 10, 13, 10, 98, 111, 100, 121]
def pre : List Int := [88, 45, 66, 101, 102, 111, 114, 101, 58, 32, 49, 13, 10, 83, 117, 98, 106, 101, 99, 116, 58]
theorem text_is (m0 : List Int) (ms : List (List Int)) : pre ++ raw (m0 :: ms) ++ aft = text m0 ms := by
  unfold text all3
  rw [show L0 :: (preS ++ m0) :: (ms ++ [A2]) ++ [[]] = L0 :: (preS ++ m0) :: (ms ++ [A2, []]) by simp]
  simp only [raw, raw_append]
  simp [pre, aft, L0, preS, A2, body4, raw]
theorem j4_ok (ws : List (List Int)) (hg : ∀ w ∈ ws, good w) (h8 : ws.length ≤ 8) (name : List Int) (hn : name.length ≤ 100) (hn1 : sm (strOfNums nX) (strOfNums name) = false) (hn2 : sm (strOfNums nS) (strOfNums name) = true) : Ev (fun k => letterboxlaw06_HeaderFolds.j4 k (strOfNums (pre ++ raw (mid ws) ++ aft)) (strOfNums (joinw ws)) (strOfNums name)) true := by
  obtain ⟨m0, ms, hm, hb0, h0, hms, hml⟩ := mid_split ws hg
  have hfl := mid_flat ws
  have hbl := blk_len ws hg
  have hrl : (raw (mid ws)).length ≤ 300 := by
    unfold mid
    by_cases h : ws = []
    · rw [if_pos h]; simp [raw]
    · rw [if_neg h, raw_len]; omega
  rw [hm] at hfl hrl ⊢
  have hbm : byte (raw (m0 :: ms)) := byte_raw (fun t ht => by
    rcases List.mem_cons.1 ht with rfl | ht
    · exact hb0
    · exact (hms t ht).1)
  have hbt : byte (text m0 ms) := by
    rw [← text_is]
    exact byte_append (byte_append (by intro c hc; revert c hc; decide) hbm) (by intro c hc; revert c hc; decide)
  have hlt : (text m0 ms).length ≤ 600 := by
    rw [← text_is]
    simp only [List.length_append]
    have : pre.length = 21 := rfl
    have : aft.length = 18 := rfl
    omega
  rw [text_is]
  obtain ⟨e, he, hlen, hof⟩ := of_text m0 ms hbt h0 (fun t ht => (hms t ht).2) hlt (by omega)
  have hsz : (strOfNums (text m0 ms)).size = (text m0 ms).length := strOfNums_size _
  have hby : bytesOf (strOfNums (text m0 ms)) = text m0 ms := bytes_str _ hbt
  have hdr21 : (text m0 ms).drop 21 = raw (m0 :: ms) ++ aft := by
    rw [← text_is, List.append_assoc]
    exact List.drop_left' rfl
  have hdre : (text m0 ms).drop (e + 8) = raw [[32, 50]] ++ (13 :: 10 :: body4) := by
    rw [← text_is, show aft = nA ++ [58] ++ (raw [[32, 50]] ++ (13 :: 10 :: body4)) by decide, ← List.append_assoc]
    refine List.drop_left' ?_
    simp only [List.length_append]
    have : pre.length = 21 := rfl
    have : nA.length = 7 := rfl
    simp only [List.length_cons, List.length_nil]
    omega
  have hb1 : bd_body (text m0 ms) 21 (e : Int) = strOfNums (blk ws) := by
    have := body_lay (text m0 ms) 21 e (m0 :: ms) aft hdr21 (by omega) he (fun t ht => by
      rcases List.mem_cons.1 ht with rfl | ht
      · exact h0
      · exact (hms t ht).2.2)
    rw [hfl] at this
    exact this
  have hb2 : bd_body (text m0 ms) ((e : Int) + 8) ((e + 12 : Nat) : Int) = strOfNums [32, 50] := by
    have := body_lay (text m0 ms) (e + 8) (e + 12) [[32, 50]] (13 :: 10 :: body4) hdre (by omega) rfl (by intro t ht c hc; rw [List.mem_singleton.1 ht] at hc; revert c hc; decide)
    rw [show (e : Int) + 8 = ((e + 8 : Nat) : Int) by omega]
    exact this
  have v1 : Ev (fun k => header_Value.f k (text m0 ms) [F1, F2 e, F3 e] (strOfNums name)) (strOfNums (joinw ws)) := by
    refine value_3 _ e name hlt hn ?_
    simp only [fd_yes (find_1 e name hn1 hn2)]
    show Ev (fun k => chars_Trim.f k (bd_body (text m0 ms) 21 (e : Int))) _
    rw [hb1, ← trim_blk ws hg]
    exact trimS _ (by omega) (byte_blk hg)
  have v2 : Ev (fun k => header_Value.f k (text m0 ms) [F1, F2 e, F3 e] (strOfNums [120, 45, 97, 102, 116, 101, 114])) (strOfNums [50]) := by
    refine value_3 _ e _ hlt (by decide) ?_
    simp only [fd_yes (find_2 e [120, 45, 97, 102, 116, 101, 114] (by decide +kernel) (by decide +kernel) (by decide +kernel))]
    show Ev (fun k => chars_Trim.f k (bd_body (text m0 ms) ((e : Int) + 8) ((e + 12 : Nat) : Int))) _
    rw [hb2]
    exact trimS [32, 50] (by decide) (by intro c hc; revert c hc; decide)
  have v3 : Ev (fun k => header_Value.f k (text m0 ms) [F1, F2 e, F3 e] (strOfNums [110, 111, 110, 101])) (⟨#[]⟩ : ByteArray) := by
    refine value_3 _ e _ hlt (by decide) ?_
    simp only [fd_no (find_3 e [110, 111, 110, 101] (by decide +kernel) (by decide +kernel) (by decide +kernel))]
    exact fin rfl
  refine st (fun k => by rw [letterboxlaw06_HeaderFolds.j4]) ?_
  rw [hby, hsz]
  refine yes (by omega) ?_
  refine bnd hof ?_
  refine yes rfl ?_
  dsimp only
  refine yes (by omega) ?_
  refine yes (by omega) ?_
  refine yes ?_ ?_
  · rw [Int.toNat_natCast, str_extract, List.take_of_length_le (Nat.le_refl _)]
    have : (text m0 ms).drop (e + 14) = body4 := by
      rw [show e + 14 = (e + 8) + 6 by omega, ← List.drop_drop, hdre]
      rfl
    rw [this]
    decide +kernel
  refine bnd v1 ?_
  refine yes rfl ?_
  refine bnd v2 ?_
  refine yes (by decide +kernel) ?_
  refine bnd v3 ?_
  exact fin (by decide +kernel)
theorem j3_ok (ws : List (List Int)) (hg : ∀ w ∈ ws, good w) (h8 : ws.length ≤ 8) (caps : Bool) : Ev (fun k => letterboxlaw06_HeaderFolds.j3 k caps (strOfNums (pre ++ raw (mid ws))) (strOfNums (joinw ws))) true := by
  have hbl := blk_len ws hg
  have hrl : (raw (mid ws)).length ≤ 300 := by
    unfold mid
    by_cases h : ws = []
    · rw [if_pos h]; simp [raw]
    · rw [if_neg h, raw_len]; omega
  have hpl : pre.length = 21 := rfl
  have hsz : (strOfNums (pre ++ raw (mid ws))).size = 21 + (raw (mid ws)).length := by rw [strOfNums_size, List.length_append, hpl]
  refine st (fun k => by rw [letterboxlaw06_HeaderFolds.j3]) ?_
  refine yes (by rw [hsz]; omega) ?_
  rw [show (⟨#[88, 45, 65, 102, 116, 101, 114, 58, 32, 50, 13, 10, 13, 10, 98, 111, 100, 121]⟩ : ByteArray) = strOfNums aft from rfl, str_append]
  cases caps with
  | true =>
    refine yes rfl ?_
    exact j4_ok ws hg h8 [83, 85, 66, 74, 69, 67, 84] (by decide) (by decide +kernel) (by decide +kernel)
  | false =>
    refine no (by decide) ?_
    exact j4_ok ws hg h8 [115, 117, 98, 106, 101, 99, 116] (by decide) (by decide +kernel) (by decide +kernel)
theorem mid_of {ws : List (List Int)} (h : ws ≠ []) : mid ws = ws.map (fun w => 32 :: w) := if_neg h
theorem raw_snoc (ws : List (List Int)) (w : List Int) : raw ((ws ++ [w]).map (fun w => 32 :: w)) = raw (ws.map (fun w => 32 :: w)) ++ (32 :: w ++ [13, 10]) := by
  rw [List.map_append, raw_append]
  simp [raw]
/-- what is so far -/
def soFar (ws : List (List Int)) : ByteArray := strOfNums (pre ++ raw (ws.map (fun w => 32 :: w)))
theorem soFar_snoc (ws : List (List Int)) (w : List Int) : soFar ws ++ (((⟨#[32]⟩ : ByteArray) ++ strOfNums w) ++ (⟨#[13, 10]⟩ : ByteArray)) = soFar (ws ++ [w]) := by
  unfold soFar
  rw [show (⟨#[32]⟩ : ByteArray) = strOfNums [32] from rfl, show (⟨#[13, 10]⟩ : ByteArray) = strOfNums [13, 10] from rfl, str_append, str_append, str_append, raw_snoc]
  simp
theorem soFar_size (ws : List (List Int)) (hg : ∀ w ∈ ws, good w) (h8 : ws.length ≤ 8) : (soFar ws).size ≤ 300 := by
  have hbl := blk_len ws hg
  have hpl : pre.length = 21 := rfl
  unfold soFar
  rw [strOfNums_size, List.length_append, raw_len, hpl]
  omega
theorem done_ok (parts : List ByteArray) (caps : Bool) (h8 : parts.length ≤ 8) (ws : List (List Int)) (hg : ∀ w ∈ ws, good w) (hws : ws.length = parts.length) : Ev (fun k => letterboxlaw06_HeaderFolds.l0 k parts caps (soFar ws) (strOfNums (joinw ws)) (parts.length : Int)) true := by
  have hss := soFar_size ws hg (by omega)
  refine st (fun k => by rw [letterboxlaw06_HeaderFolds.l0]) ?_
  refine no (by omega) ?_
  by_cases h : parts.length = 0
  · have : ws = [] := List.length_eq_zero_iff.1 (by omega)
    subst this
    refine yes (by omega) ?_
    refine yes (by omega) ?_
    have := j3_ok [] (fun w hw => by simp at hw) (by simp) caps
    exact this
  · refine no (by omega) ?_
    have hne : ws ≠ [] := fun e => h (by rw [← hws, e]; rfl)
    have := j3_ok ws hg (by omega) caps
    rw [mid_of hne] at this
    exact this
theorem end_part (parts : List ByteArray) (caps : Bool) (h8 : parts.length ≤ 8) (i : Nat) (hi : i < parts.length) (ws : List (List Int)) (hg : ∀ w ∈ ws, good w) (hws : ws.length = i) (u : List Int) (hu : u.length ≤ 20 ∧ ∀ c ∈ u, 33 ≤ c ∧ c ≤ 126) (x10 : Int)
    (nxt : ∀ w, good w → Ev (fun k => letterboxlaw06_HeaderFolds.l0 k parts caps (soFar (ws ++ [w])) (strOfNums (joinw (ws ++ [w]))) ((i + 1 : Nat) : Int)) true) :
    Ev (fun k => letterboxlaw06_HeaderFolds.j2 k parts caps (soFar ws) (strOfNums (joinw ws)) (i : Int) (strOfNums u) x10 false) true := by
  have hss := soFar_size ws hg (by omega)
  have hbl := blk_len ws hg
  have hjl : (strOfNums (joinw ws)).size ≤ 200 := by
    rw [strOfNums_size]
    unfold joinw
    rw [List.length_drop]
    omega
  have hul : (strOfNums u).size = u.length := strOfNums_size _
  have hw : Aside0 (wrap64 ((i : Int) + 1) = ((i + 1 : Nat) : Int)) := ⟨by rw [w64 (by omega) (by omega)]; omega⟩
  have h13 : (⟨#[13, 10]⟩ : ByteArray).size = 2 := rfl
  have h32 : (⟨#[32]⟩ : ByteArray).size = 1 := rfl
  have h120 : (⟨#[120]⟩ : ByteArray).size = 1 := rfl
  have hjn : (strOfNums (joinw ws)).toList = [] ↔ ws = [] := (str_toList_nil _).trans (joinw_nil hg)
  refine st (fun k => by rw [letterboxlaw06_HeaderFolds.j2]) ?_
  refine no (by decide) ?_
  rw [hw.out]
  by_cases hu0 : u = []
  · have hgx : good [120] := ⟨by decide, by decide, by decide⟩
    refine yes (by rw [str_toList_nil]; exact hu0) ?_
    refine yes (by decide) ?_
    refine yes (by decide) ?_
    refine yes (by rw [ByteArray.size_append, ByteArray.size_append, h13, h32, h120]; omega) ?_
    rw [show (⟨#[120]⟩ : ByteArray) = strOfNums [120] from rfl, soFar_snoc]
    by_cases hw0 : ws = []
    · refine yes (hjn.2 hw0) ?_
      refine yes (by omega) ?_
      have := nxt [120] hgx
      subst hw0
      exact this
    · refine no (fun e => hw0 (hjn.1 e)) ?_
      refine yes (by omega) ?_
      refine yes (by rw [ByteArray.size_append, h32]; omega) ?_
      have := nxt [120] hgx
      rw [joinw_snoc ws _ hw0] at this
      rw [show (⟨#[32]⟩ : ByteArray) = strOfNums [32] from rfl, str_append, str_append, List.append_assoc]
      exact this
  · have hgu : good u := ⟨hu0, hu.1, hu.2⟩
    refine no (by rw [str_toList_nil]; exact hu0) ?_
    refine yes (by omega) ?_
    refine yes (by rw [ByteArray.size_append, h32]; omega) ?_
    refine yes (by rw [ByteArray.size_append, ByteArray.size_append, h13, h32]; omega) ?_
    rw [soFar_snoc]
    by_cases hw0 : ws = []
    · refine yes (hjn.2 hw0) ?_
      refine yes (by omega) ?_
      have := nxt u hgu
      subst hw0
      rw [str_append]
      rw [List.nil_append, joinw_one] at this
      exact this
    · refine no (fun e => hw0 (hjn.1 e)) ?_
      refine yes (by omega) ?_
      refine yes (by rw [ByteArray.size_append, h32]; omega) ?_
      have := nxt u hgu
      rw [joinw_snoc ws _ hw0] at this
      rw [show (⟨#[32]⟩ : ByteArray) = strOfNums [32] from rfl, str_append, str_append, List.append_assoc]
      exact this
theorem ex_one (s : ByteArray) (j : Nat) (hj : j < s.size) : s.extract j (j + 1) = strOfNums [bt s (j : Int)] := by
  have hs : s = strOfNums (bytesOf s) := by
    apply bytes_inj
    rw [bytes_str _ (byte_bytes s)]
  have hl : j < (bytesOf s).length := by rw [bytesOf_length]; exact hj
  rw [bt_bytes]
  conv => lhs; rw [hs]
  rw [str_extract, List.drop_take, drop_rd _ _ hl]
  simp
theorem part_l1 (parts : List ByteArray) (caps : Bool) (h8 : parts.length ≤ 8) (hps : ∀ x ∈ parts, x.size ≤ 140737488351232) (i : Nat) (hi : i < parts.length) (ws : List (List Int)) (hg : ∀ w ∈ ws, good w) (hws : ws.length = i)
    (nxt : ∀ w, good w → Ev (fun k => letterboxlaw06_HeaderFolds.l0 k parts caps (soFar (ws ++ [w])) (strOfNums (joinw (ws ++ [w]))) ((i + 1 : Nat) : Int)) true) :
    ∀ (d j : Nat) (u : List Int), 20 - j ≤ d → u.length ≤ j → u.length ≤ 20 → (∀ c ∈ u, 33 ≤ c ∧ c ≤ 126) → Ev (fun k => letterboxlaw06_HeaderFolds.l1 k parts caps (soFar ws) (strOfNums (joinw ws)) (i : Int) (strOfNums u) (j : Int)) true := by
  obtain ⟨s, hs⟩ : ∃ s, s = rdOf ByteArray.empty parts (i : Int) := ⟨_, rfl⟩
  intro d
  induction d with
  | zero =>
    intro j u h1 h2 h3 h4
    refine st (fun k => by rw [letterboxlaw06_HeaderFolds.l1]) ?_
    rw [← hs]
    refine yes (by omega) ?_
    refine yes (by omega) ?_
    have hE := end_part parts caps h8 i hi ws hg hws u ⟨h3, h4⟩ (j : Int) nxt
    by_cases hj : (j : Int) < (s.size : Int)
    · refine yes hj ?_
      rw [decide_eq_false (by omega)]
      exact hE
    · exact no hj hE
  | succ d ih =>
    intro j u h1 h2 h3 h4
    refine st (fun k => by rw [letterboxlaw06_HeaderFolds.l1]) ?_
    rw [← hs]
    refine yes (by omega) ?_
    refine yes (by omega) ?_
    have hE := end_part parts caps h8 i hi ws hg hws u ⟨h3, h4⟩ (j : Int) nxt
    by_cases hj : (j : Int) < (s.size : Int)
    · refine yes hj ?_
      by_cases h20 : (j : Int) < 20
      · rw [decide_eq_true h20]
        have hw : Aside0 (wrap64 ((j : Int) + 1) = ((j + 1 : Nat) : Int)) := ⟨by rw [w64 (by omega) (by omega)]; omega⟩
        refine st (fun k => by rw [letterboxlaw06_HeaderFolds.j2]) ?_
        rw [← hs, hw.out]
        refine yes rfl ?_
        refine yes (by omega) ?_
        refine yes (by omega) ?_
        refine yes (by omega) ?_
        refine yes hj ?_
        by_cases c1 : bt s (j : Int) > 32
        · refine yes c1 ?_
          by_cases c2 : bt s (j : Int) < 127
          · refine yes c2 ?_
            refine yes (by omega) ?_
            refine yes (by omega) ?_
            rw [Int.toNat_natCast, Int.toNat_natCast, ex_one s j (by omega)]
            refine yes (by rw [strOfNums_size, strOfNums_size]; simp only [List.length_cons, List.length_nil]; omega) ?_
            rw [str_append]
            refine ih (j + 1) (u ++ [bt s (j : Int)]) (by omega) (by simp; omega) (by simp; omega) ?_
            intro c hc
            rcases List.mem_append.1 hc with hc | hc
            · exact h4 c hc
            · rw [List.mem_singleton.1 hc]
              omega
          · exact no c2 (ih (j + 1) u (by omega) (by omega) h3 h4)
        · exact no c1 (ih (j + 1) u (by omega) (by omega) h3 h4)
      · rw [decide_eq_false h20]
        exact hE
    · exact no hj hE
theorem parts_l0 (parts : List ByteArray) (caps : Bool) (h8 : parts.length ≤ 8) (hps : ∀ x ∈ parts, x.size ≤ 140737488351232) : ∀ (d : Nat) (ws : List (List Int)), parts.length - ws.length ≤ d → ws.length ≤ parts.length → (∀ w ∈ ws, good w) → Ev (fun k => letterboxlaw06_HeaderFolds.l0 k parts caps (soFar ws) (strOfNums (joinw ws)) (ws.length : Int)) true := by
  intro d
  induction d with
  | zero =>
    intro ws h1 h2 hg
    have : ws.length = parts.length := by omega
    rw [this]
    exact done_ok parts caps h8 ws hg this
  | succ d ih =>
    intro ws h1 h2 hg
    by_cases h : ws.length < parts.length
    · refine st (fun k => by rw [letterboxlaw06_HeaderFolds.l0]) ?_
      refine yes (by omega) ?_
      refine part_l1 parts caps h8 hps ws.length h ws hg rfl ?_ 20 0 [] (by omega) (by simp) (by simp) (fun c hc => by simp at hc)
      intro w hw
      have := ih (ws ++ [w]) (by simp; omega) (by simp; omega) (fun v hv => by
        rcases List.mem_append.1 hv with hv | hv
        · exact hg v hv
        · rw [List.mem_singleton.1 hv]; exact hw)
      rw [show (ws ++ [w]).length = ws.length + 1 by simp] at this
      exact this
    · have : ws.length = parts.length := by omega
      rw [this]
      exact done_ok parts caps h8 ws hg this
theorem HeaderFolds : letterboxlaw06_HeaderFolds.Pure := by
  intro parts caps hp
  refine Ev.rounds (g := fun k => letterboxlaw06_HeaderFolds.f k parts caps) ?_
  show Ev (fun k => (letterboxlaw06_awake.f).bind _) _
  refine bs ?_
  refine yes rfl ?_
  by_cases h : (parts.length : Int) > 8
  · exact yes h (fin rfl)
  · refine no h ?_
    exact parts_l0 parts caps (by omega) hp.2.2 8 [] (by simp; omega) (by simp) (fun w hw => by simp at hw)
end Go.Proofs.Ytckmfmfhhojmfaa.Pure
