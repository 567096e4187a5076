/- The law QpBack holds of any bytes and any cuts: their text is the document's, and it is decoded as they were, with soft lines anywhere between. No condition. -/
import Derived.Test.YtcnbkblnchechaaREnc
import Derived.Test.YtcnbkblnchechaaPx8
set_option linter.unusedVariables false
set_option linter.unusedSimpArgs false
namespace Go.Proofs.Ytcnbkblnchechaa.Pure
open Go.RowKit Go.Proofs.Ytcnbkblnchechaa.P Go.Proofs.YtcnbkblnchechaaW.PrintWords Go.Proofs.YtcnbkblnchechaaW.PrintLast Go.Proofs.Ytcnbkblnchechaa.Aids Go.Proofs.Ytcnbkblnchechaa.Qp

def softB : Option (Bool × Bool) → List Int
  | none => []
  | some (sp, cr) => 61 :: ((if sp then [32] else []) ++ ((if cr then [13] else []) ++ [10]))
def F (ts : List (Int × Option (Bool × Bool))) : List Int := ts.flatMap fun t => encB t.1 ++ softB t.2
theorem F_cons (t : Int × Option (Bool × Bool)) (ts) : F (t :: ts) = encB t.1 ++ softB t.2 ++ F ts := rfl
theorem F_snoc (ts) (t : Int × Option (Bool × Bool)) : F (ts ++ [t]) = F ts ++ (encB t.1 ++ softB t.2) := by simp [F]
theorem softB_len (s : Option (Bool × Bool)) : (softB s).length ≤ 4 := by
  rcases s with _ | ⟨a, b⟩
  · simp [softB]
  · cases a <;> cases b <;> simp [softB]
theorem not10 {l : List Int} (h : ∀ x ∈ l, 33 ≤ x ∧ x ≤ 126) : ∀ x ∈ l, x ≠ 10 := fun x hx => by have := h x hx; omega
theorem soft_line (u : List Int) (hu : byte u) (sp cr : Bool) (rest : List Int) : decS (encS u ++ (softB (some (sp, cr)) ++ rest)) = (decS rest).map fun o => u ++ o := by
  have hc := not10 (encS_chars hu)
  have e : encS u ++ (softB (some (sp, cr)) ++ rest) = (encS u ++ [61] ++ (if sp then [32] else []) ++ (if cr then [13] else [])) ++ 10 :: rest := by
    simp [softB]
  have h10 : ∀ c ∈ encS u ++ [61] ++ (if sp then [32] else []) ++ (if cr then [13] else []), c ≠ 10 := by
    intro c h
    rcases List.mem_append.1 h with h | h
    · rcases List.mem_append.1 h with h | h
      · rcases List.mem_append.1 h with h | h
        · exact hc c h
        · rw [List.mem_singleton.1 h]; decide
      · cases sp
        · cases h
        · rw [List.mem_singleton.1 h]; decide
    · cases cr
      · cases h
      · rw [List.mem_singleton.1 h]; decide
  rw [e, decS_lf _ _ h10]
  have key : ∀ e2, (soft (trimR (uncr (encS u ++ [61] ++ (if sp then [32] else []) ++ (if cr then [13] else [])))) e2) = (encS u, []) := by
    intro e2
    cases sp <;> cases cr
    · simp only [Bool.false_eq_true, if_false, List.append_nil]
      rw [uncr_snoc, if_neg (by decide), trimR_snoc, if_neg (by decide), soft_snoc, if_pos rfl]
    · simp only [Bool.false_eq_true, if_false, if_true, List.append_nil]
      rw [uncr_snoc, if_pos rfl, trimR_snoc, if_neg (by decide), soft_snoc, if_pos rfl]
    · simp only [Bool.false_eq_true, if_false, if_true, List.append_nil]
      rw [uncr_snoc, if_neg (by decide), trimR_snoc, if_pos (by decide), trimR_snoc, if_neg (by decide), soft_snoc, if_pos rfl]
    · simp only [if_true]
      rw [uncr_snoc, if_pos rfl, trimR_snoc, if_pos (by decide), trimR_snoc, if_neg (by decide), soft_snoc, if_pos rfl]
  rw [key, readS_enc_all u hu]
  cases decS rest <;> simp
theorem F_dec (ts : List (Int × Option (Bool × Bool))) : ∀ u : List Int, byte u → byte (ts.map (·.1)) → decS (encS u ++ F ts) = some (u ++ ts.map (·.1)) := by
  induction ts with
  | nil =>
    intro u hu _
    have c := clean_end (encS_last hu) []
    show decS (encS u ++ []) = _
    rw [List.append_nil, decS_no _ (not10 (encS_chars hu)), c.1, c.2.2.2, readS_enc_all u hu]; simp
  | cons t ts ih =>
    intro u hu hts
    have ht : 0 ≤ t.1 ∧ t.1 ≤ 255 := hts t.1 (by simp)
    have hu2 : byte (u ++ [t.1]) := by
      intro c hc
      rcases List.mem_append.1 hc with h | h
      · exact hu c h
      · rw [List.mem_singleton.1 h]; exact ht
    have hts2 : byte (ts.map (·.1)) := fun c hc => hts c (List.mem_cons_of_mem _ hc)
    rw [F_cons, List.append_assoc, ← List.append_assoc, ← encS_one t.1, ← encS_append]
    rcases hs : t.2 with _ | ⟨sp, cr⟩
    · show decS (encS (u ++ [t.1]) ++ F ts) = _
      rw [ih _ hu2 hts2]; simp
    · rw [soft_line _ hu2]
      have := ih [] (fun c hc => by cases hc) hts2
      rw [encS_nil, List.nil_append] at this
      rw [this]; simp
section
variable (b cuts e : List Int)
theorem back_j4 (R : Bool) (f : List Int) (skip : Int) (i : Nat) (hf : f.length ≤ 100000) (hi : i < 2000) (v : Bool) (hv : v = true → i < cuts.length)
    (h : ∀ s, (v = false → s = none) → Ev (fun k => letterboxlaw03_QpBack.l0 k b cuts e (f ++ softB s) skip ((i + 1 : Nat) : Int)) R) :
    Ev (fun k => letterboxlaw03_QpBack.j4 k b cuts e f skip (i : Int) v) R := by
  have e1 : wrap64 ((i : Int) + 1) = ((i + 1 : Nat) : Int) := by rw [w64 (by omega) (by omega)]; omega
  refine st (fun k => by rw [letterboxlaw03_QpBack.j4]) ?_
  simp only [e1]
  cases v with
  | false =>
    have := h none (fun _ => rfl)
    rw [show f ++ softB none = f from List.append_nil f] at this
    exact no (by simp) this
  | true =>
    have hlt := hv rfl
    refine yes rfl (yes (by omega) (bs (yes (by omega) (yes (by omega) ?_))))
    by_cases h4 : Go.bits .and .u8 (rd cuts (i : Int)) 4 = 4
    · refine yes h4 (yes (by simp; omega) (bs ?_))
      by_cases h8 : Go.bits .and .u8 (rd cuts (i : Int)) 8 = 8
      · refine yes h8 (yes (by simp; omega) (bs (yes (by simp; omega) ?_)))
        have := h (some (true, true)) (fun h => by cases h)
        simpa [softB] using this
      · refine no h8 (yes (by simp; omega) ?_)
        have := h (some (true, false)) (fun h => by cases h)
        simpa [softB] using this
    · refine no h4 ?_
      by_cases h8 : Go.bits .and .u8 (rd cuts (i : Int)) 8 = 8
      · refine yes h8 (yes (by simp; omega) (bs (yes (by simp; omega) ?_)))
        have := h (some (false, true)) (fun h => by cases h)
        simpa [softB] using this
      · refine no h8 (yes (by simp; omega) ?_)
        have := h (some (false, false)) (fun h => by cases h)
        simpa [softB] using this
theorem back_step (he : e.length ≤ 1000) (R : Bool) (f : List Int) (skip skip' : Nat) (i : Nat) (c : Int) (tl : List Int) (hf : f.length ≤ 90000) (hsk : skip ≤ 10) (hd : e.drop i = c :: tl) (hs : skip' = if c = 61 then 2 else skip - 1)
    (h : ∀ s, (skip' ≠ 0 → s = none) → Ev (fun k => letterboxlaw03_QpBack.l0 k b cuts e (f ++ [c] ++ softB s) (skip' : Int) ((i + 1 : Nat) : Int)) R) :
    Ev (fun k => letterboxlaw03_QpBack.l0 k b cuts e f (skip : Int) (i : Int)) R := by
  obtain ⟨hi, hr, _⟩ := drop_cons hd
  have j3 : Ev (fun k => letterboxlaw03_QpBack.j3 k b cuts e (f ++ [c]) (skip' : Int) (i : Int)) R := by
    refine st (fun k => by rw [letterboxlaw03_QpBack.j3]) ?_
    by_cases h0 : skip' = 0
    · refine yes (by omega) ?_
      by_cases hlt : i < cuts.length
      · exact yes (by omega) (yes (by omega) (back_j4 b cuts e R _ _ i (by simp; omega) (by omega) _ (fun _ => hlt) (fun s _ => h s (fun z => absurd h0 z))))
      · exact no (by omega) (back_j4 b cuts e R _ _ i (by simp; omega) (by omega) _ (fun z => by cases z) (fun s _ => h s (fun z => absurd h0 z)))
    · exact no (by omega) (back_j4 b cuts e R _ _ i (by simp; omega) (by omega) _ (fun z => by cases z) (fun s hs2 => h s (fun _ => hs2 rfl)))
  have j2 : ∀ sk : Nat, (c ≠ 61 → sk = skip - 1) → Ev (fun k => letterboxlaw03_QpBack.j2 k b cuts e (f ++ [c]) (sk : Int) (i : Int)) R := by
    intro sk hsk2
    refine st (fun k => by rw [letterboxlaw03_QpBack.j2]) ?_
    rw [hr]
    refine yes (by omega) (yes (by omega) ?_)
    by_cases h61 : c = 61
    · rw [if_pos h61] at hs
      rw [hs] at j3
      exact yes h61 j3
    · rw [if_neg h61, ← hsk2 h61] at hs
      rw [hs] at j3
      exact no h61 j3
  refine st (fun k => by rw [letterboxlaw03_QpBack.l0]) ?_
  rw [hr]
  refine yes (by omega) (yes (by omega) (yes (by omega) (bs ?_)))
  by_cases hp : 0 < skip
  · refine yes (by omega) ?_
    have e2 : wrap64 ((skip : Int) - 1) = ((skip - 1 : Nat) : Int) := by rw [w64 (by omega) (by omega)]; omega
    rw [e2]
    exact j2 (skip - 1) (fun _ => rfl)
  · refine no (by omega) ?_
    exact j2 skip (fun _ => by omega)
theorem back_token (he : e.length ≤ 1000) (R : Bool) (f : List Int) (i : Nat) (c : Int) (h0 : 0 ≤ c) (h1 : c ≤ 255) (tl : List Int) (hf : f.length ≤ 80000) (hd : e.drop i = encB c ++ tl)
    (h : ∀ s, Ev (fun k => letterboxlaw03_QpBack.l0 k b cuts e (f ++ (encB c ++ softB s)) 0 ((i + (encB c).length : Nat) : Int)) R) :
    Ev (fun k => letterboxlaw03_QpBack.l0 k b cuts e f 0 (i : Int)) R := by
  unfold encB at hd h
  split at hd
  · rename_i hp
    rw [if_pos hp] at h
    refine back_step b cuts e he R f 0 0 i c tl (by omega) (by omega) hd (by rw [if_neg hp.2.2]) (fun s _ => ?_)
    have := h s
    simpa using this
  · rename_i hp
    rw [if_neg hp] at h
    have r1 := hex_range (c / 16) (by omega) (by omega)
    have r2 := hex_range (c % 16) (by omega) (by omega)
    obtain ⟨_, _, hd2⟩ := drop_cons hd
    obtain ⟨_, _, hd3⟩ := drop_cons hd2
    refine back_step b cuts e he R f 0 2 i 61 _ (by omega) (by omega) hd (by rw [if_pos rfl]) (fun s hs => ?_)
    rw [hs (by decide), show f ++ [61] ++ softB none = f ++ [61] from List.append_nil _]
    refine back_step b cuts e he R _ 2 1 (i + 1) (hex (c / 16)) _ (by simp; omega) (by omega) hd2 (by rw [if_neg r1.2.2]) (fun s hs => ?_)
    rw [hs (by decide), show f ++ [61] ++ [hex (c / 16)] ++ softB none = f ++ [61] ++ [hex (c / 16)] from List.append_nil _]
    refine back_step b cuts e he R _ 1 0 (i + 1 + 1) (hex (c % 16)) tl (by simp; omega) (by omega) hd3 (by rw [if_neg r2.2.2]) (fun s _ => ?_)
    have := h s
    rw [show i + 1 + 1 + 1 = i + [61, hex (c / 16), hex (c % 16)].length from rfl, show f ++ [61] ++ [hex (c / 16)] ++ [hex (c % 16)] ++ softB s = f ++ ([61, hex (c / 16), hex (c % 16)] ++ softB s) by simp]
    exact this
end
theorem back_loop (b cuts e : List Int) (hb : byte b) (he : e = encS b) (hbl : b.length ≤ 200) (rem : List Int) : ∀ (ts : List (Int × Option (Bool × Bool))), b = ts.map (·.1) ++ rem →
    Ev (fun k => letterboxlaw03_QpBack.l0 k b cuts e (F ts) 0 ((encS (ts.map (·.1))).length : Int)) true := by
  have hel : e.length ≤ 1000 := by have := encS_len b; rw [he]; omega
  have hFl : ∀ ts : List (Int × Option (Bool × Bool)), (F ts).length ≤ 7 * ts.length := by
    intro ts
    induction ts with
    | nil => simp [F]
    | cons t ts ih =>
      have h1 := encB_len t.1
      have h2 := softB_len t.2
      rw [F_cons, List.length_append, List.length_append, List.length_cons]; omega
  have hFb : ∀ ts : List (Int × Option (Bool × Bool)), byte (ts.map (·.1)) → byte (F ts) := by
    intro ts h c hc
    simp only [F, List.mem_flatMap] at hc
    obtain ⟨t, ht, hc⟩ := hc
    have hb1 := h t.1 (List.mem_map.2 ⟨t, ht, rfl⟩)
    rcases List.mem_append.1 hc with hc | hc
    · have := encB_chars t.1 hb1.1 hb1.2 c hc; omega
    · rcases hs : t.2 with _ | ⟨sp, cr⟩
      · rw [hs] at hc; cases hc
      · rw [hs] at hc
        cases sp <;> cases cr <;> simp [softB] at hc <;> omega
  induction rem with
  | nil =>
    intro ts hts
    rw [List.append_nil] at hts
    have htl : ts.length ≤ 200 := by have := congrArg List.length hts; simp at this; omega
    have h7 := hFl ts
    refine st (fun k => by rw [letterboxlaw03_QpBack.l0]) ?_
    refine no (by rw [he, ← hts]; omega) (bnd (dec_eq _ (by omega) (hFb ts (by rw [← hts]; exact hb))) ?_)
    have := F_dec ts [] (fun c hc => by cases hc) (by rw [← hts]; exact hb)
    rw [encS_nil, List.nil_append, List.nil_append, ← hts] at this
    rw [this]
    exact yes rfl (fin (by simp [told]))
  | cons c rem ih =>
    intro ts hts
    have hc := hb c (by rw [hts]; simp)
    have htl : ts.length ≤ 200 := by have := congrArg List.length hts; simp at this; omega
    have h7 := hFl ts
    have hd : e.drop (encS (ts.map (·.1))).length = encB c ++ encS rem := by
      rw [he, hts, encS_append, encS_cons, List.drop_left]
    refine back_token b cuts e hel true (F ts) _ c hc.1 hc.2 (encS rem) (by omega) hd (fun s => ?_)
    have := ih (ts ++ [(c, s)]) (by rw [hts]; simp)
    rw [F_snoc, List.map_append, List.map_singleton, encS_append, encS_one, List.length_append] at this
    exact this
theorem QpBack : letterboxlaw03_QpBack.Pure := by
  intro b cuts _ _ h3 _ _ h6
  have hb : byte b := fun y hy => wf_u8 (h3 y hy)
  have hc : byte cuts := fun y hy => wf_u8 (h6 y hy)
  refine Ev.rounds (g := fun k => letterboxlaw03_QpBack.f k b cuts) ?_
  show Ev (fun k => (letterboxlaw03_awake.f).bind _) _
  refine bs ?_
  refine yes rfl ?_
  have j0 : ∀ v, (v = false → b.length ≤ 200 ∧ cuts.length ≤ 300) → Ev (fun k => letterboxlaw03_QpBack.j0 k b cuts v) true := by
    intro v hv
    refine st (fun k => by rw [letterboxlaw03_QpBack.j0]) ?_
    cases v with
    | true => exact yes rfl (fin rfl)
    | false =>
      have hl := hv rfl
      exact no (by simp) (bnd (enc_eq b (by omega) hb) (bnd (renc_eq b (by omega) hb) (yes rfl (back_loop b cuts (encS b) hb rfl hl.1 b [] (by simp)))))
  by_cases h200 : (b.length : Int) > 200
  · exact yes h200 (j0 true (fun h => by cases h))
  · exact no h200 (j0 _ (fun h => by have := of_decide_eq_false h; omega))
end Go.Proofs.Ytcnbkblnchechaa.Pure
