/- Lines, fields and names of bytes that are put together out of rows with their ends: in plain words. -/
import Derived.Test.YtckmfmfhhojmfaaOfC
import Derived.Test.YtckmfmfhhojmfaaTrim
import Derived.Test.YtckmfmfhhojmfaaPx3
set_option linter.unusedVariables false
set_option linter.unusedSimpArgs false
namespace Go.Proofs.Ytckmfmfhhojmfaa.Fo
open Go.RowKit Go.Proofs.Ytckmfmfhhojmfaa.P Go.Proofs.YtckmfmfhhojmfaaW.PrintWords Go.Proofs.YtckmfmfhhojmfaaW.PrintLast Go.Proofs.YtckmfmfhhojmfaaW.PrintMore Go.Proofs.Ytckmfmfhhojmfaa.Aids Go.Proofs.Ytckmfmfhhojmfaa.Lin Go.Proofs.Ytckmfmfhhojmfaa.Nam Go.Proofs.Ytckmfmfhhojmfaa.Chn Go.Proofs.Ytckmfmfhhojmfaa.Chars
def raw : List (List Int) → List Int
  | [] => []
  | t :: ts => t ++ 13 :: 10 :: raw ts
def lay : Nat → List (List Int) → List S40
  | _, [] => []
  | at_, t :: ts => ⟨(at_ : Int), ((at_ + t.length : Nat) : Int), ((at_ + t.length + 2 : Nat) : Int)⟩ :: lay (at_ + t.length + 2) ts
theorem raw_append (a c : List (List Int)) : raw (a ++ c) = raw a ++ raw c := by
  induction a with
  | nil => rfl
  | cons t ts ih => show t ++ 13 :: 10 :: raw (ts ++ c) = _; rw [ih]; simp [raw]
theorem lay_append (a c : List (List Int)) : ∀ at_, lay at_ (a ++ c) = lay at_ a ++ lay (at_ + (raw a).length) c := by
  induction a with
  | nil => intro at_; rfl
  | cons t ts ih =>
    intro at_
    show _ :: lay _ (ts ++ c) = _ :: (lay _ ts ++ _)
    rw [ih, show at_ + t.length + 2 + (raw ts).length = at_ + (raw (t :: ts)).length by simp [raw]; omega]
theorem lay_length : ∀ (a : List (List Int)) (at_ : Nat), (lay at_ a).length = a.length
  | [], _ => rfl
  | t :: ts, at_ => by show (lay _ ts).length + 1 = ts.length + 1; rw [lay_length ts]
theorem ixn_app (v : Int) (r : List Int) : ∀ t : List Int, (∀ c ∈ t, c ≠ v) → ixn (t ++ v :: r) v = t.length
  | [], _ => if_pos rfl
  | x :: t, h => by
    show (if x = v then 0 else ixn (t ++ v :: r) v + 1) = t.length + 1
    rw [if_neg (h x List.mem_cons_self), ixn_app v r t (fun c hc => h c (List.mem_cons_of_mem _ hc))]
theorem nx_row (b : List Int) (en at_ : Nat) (he : en ≤ b.length) (t r : List Int) (h : (b.take en).drop at_ = t ++ 13 :: 10 :: r) (ht : ∀ c ∈ t, c ≠ 10) : at_ + t.length + 2 ≤ en ∧ ln_nx b en at_ = ⟨(at_ : Int), ((at_ + t.length : Nat) : Int), ((at_ + t.length + 2 : Nat) : Int)⟩ := by
  have hl : ((b.take en).drop at_).length = t.length + (r.length + 2) := by rw [h]; simp
  rw [List.length_drop, List.length_take] at hl
  have hm : t.length + 1 = ixn ((b.take en).drop at_) 10 := by
    rw [h, show t ++ 13 :: 10 :: r = (t ++ [13]) ++ 10 :: r by simp, ixn_app 10 r (t ++ [13]) (fun c hc => by
      rcases List.mem_append.1 hc with hc | hc
      · exact ht c hc
      · rw [List.mem_singleton.1 hc]; decide)]
    simp
  have h13 : rd b ((at_ + (t.length + 1) - 1 : Nat) : Int) = 13 := by
    rw [show at_ + (t.length + 1) - 1 = at_ + t.length by omega, ← rd_sub b en at_ t.length (by omega) he, h, rd_at _ _ (by simp)]
    simp
  refine ⟨by omega, ?_⟩
  rw [ln_nx_yes rfl hm (by omega) _ rfl, if_pos ⟨by omega, h13⟩]
  congr 1
theorem from_lay (b : List Int) (en : Nat) (he : en ≤ b.length) : ∀ (ts : List (List Int)) (at_ : Nat) (r : List Int), (b.take en).drop at_ = raw ts ++ r → (∀ t ∈ ts, ∀ c ∈ t, c ≠ 10) → ln_from b en at_ = lay at_ ts ++ ln_from b en (at_ + (raw ts).length)
  | [], at_, r, h, _ => rfl
  | t :: ts, at_, r, h, ht => by
    have h' : (b.take en).drop at_ = t ++ 13 :: 10 :: (raw ts ++ r) := by rw [h]; simp [raw]
    obtain ⟨h1, h2⟩ := nx_row b en at_ he t _ h' (ht t List.mem_cons_self)
    have h3 : (b.take en).drop (at_ + t.length + 2) = raw ts ++ r := by
      rw [show at_ + t.length + 2 = at_ + (t.length + 2) by omega, ← List.drop_drop, h', show t ++ 13 :: 10 :: (raw ts ++ r) = (t ++ [13, 10]) ++ (raw ts ++ r) by simp]
      exact List.drop_left' (by simp)
    rw [ln_from_step b en at_ (by omega), h2]
    dsimp only
    rw [Int.toNat_natCast, from_lay b en he ts (at_ + t.length + 2) r h3 (fun u hu => ht u (List.mem_cons_of_mem _ hu)), show at_ + (raw (t :: ts)).length = at_ + t.length + 2 + (raw ts).length by simp [raw]; omega]
    rfl
/-- the text of a row that stands in the bytes -/
theorem txt_row (b : List Int) (at_ : Nat) (t r : List Int) (h : b.drop at_ = t ++ r) (hat : at_ ≤ b.length) : ln_txt b (at_ : Int) ((at_ + t.length : Nat) : Int) = strOfNums t := by
  have hl : (b.drop at_).length = t.length + r.length := by rw [h]; simp
  rw [List.length_drop] at hl
  unfold ln_txt
  rw [if_pos ⟨by omega, by omega, by omega⟩, Int.toNat_natCast, Int.toNat_natCast, List.drop_take, h, show at_ + t.length - at_ = t.length by omega, List.take_left']
  rfl
theorem emp_lay : ∀ (ts : List (List Int)) (at_ : Nat) (x : List S40), (∀ t ∈ ts, t ≠ []) → ln_emp (lay at_ ts ++ x) = ts.length + ln_emp x
  | [], at_, x, _ => by simp [lay]
  | t :: ts, at_, x, h => by
    have ht : t.length ≠ 0 := fun e => h t List.mem_cons_self (List.length_eq_zero_iff.1 e)
    show (if (at_ : Int) = ((at_ + t.length : Nat) : Int) then 0 else ln_emp (lay _ ts ++ x) + 1) = ts.length + 1 + ln_emp x
    rw [if_neg (by omega), emp_lay ts _ x (fun u hu => h u (List.mem_cons_of_mem _ hu))]
    omega
theorem rd40_app (l : List S40) (y : S40) (z : List S40) : rd_T40 (l ++ y :: z) (l.length : Int) = y := by
  unfold rd_T40
  rw [Int.toNat_natCast]
  simp
/-- a body's text: the texts of its lines, one behind the other -/
theorem cat_lay (b : List Int) : ∀ (ts : List (List Int)) (at_ : Nat) (r : List Int) (a : List Int), b.drop at_ = raw ts ++ r → at_ ≤ b.length → bd_cat b (lay at_ ts) (strOfNums a) = strOfNums (a ++ ts.flatten)
  | [], at_, r, a, _, _ => by
    show strOfNums a = _
    simp
  | t :: ts, at_, r, a, h, hat => by
    have h' : b.drop at_ = t ++ (13 :: 10 :: (raw ts ++ r)) := by rw [h]; simp [raw]
    have hl : (b.drop at_).length = t.length + ((raw ts ++ r).length + 2) := by rw [h']; simp
    rw [List.length_drop] at hl
    show bd_cat b (lay (at_ + t.length + 2) ts) (strOfNums a ++ ln_txt b (at_ : Int) ((at_ + t.length : Nat) : Int)) = _
    rw [txt_row b at_ t _ h' hat, str_append, cat_lay b ts (at_ + t.length + 2) r (a ++ t) ?_ (by omega)]
    · simp
    · rw [show at_ + t.length + 2 = at_ + (t.length + 2) by omega, ← List.drop_drop, h', show t ++ 13 :: 10 :: (raw ts ++ r) = (t ++ [13, 10]) ++ (raw ts ++ r) by simp]
      exact List.drop_left' (by simp)
theorem take_drop_pre (b : List Int) (at_ en : Nat) (m r : List Int) (h : b.drop at_ = m ++ r) (he : en = at_ + m.length) : (b.take en).drop at_ = m := by
  subst he
  rw [List.drop_take, h, show at_ + m.length - at_ = m.length by omega, List.take_left']
  rfl
theorem body_lay (b : List Int) (at_ en : Nat) (ts : List (List Int)) (r : List Int) (h : b.drop at_ = raw ts ++ r) (hat : at_ ≤ b.length) (he : en = at_ + (raw ts).length) (ht : ∀ t ∈ ts, ∀ c ∈ t, c ≠ 10) : bd_body b (at_ : Int) (en : Int) = strOfNums ts.flatten := by
  have hl : (b.drop at_).length = (raw ts).length + r.length := by rw [h]; simp
  rw [List.length_drop] at hl
  unfold bd_body bd_lines
  rw [if_pos ⟨by omega, by omega, by omega⟩, Int.toNat_natCast, Int.toNat_natCast, from_lay b en (by omega) ts at_ [] (by rw [List.append_nil]; exact take_drop_pre b at_ en _ r h he) ht, ln_from_end b en _ (by omega), List.append_nil]
  exact cat_lay b ts at_ r [] h hat
theorem goes_cons (c : Int) (t : List Int) (h : byte (c :: t)) : header_goes.f (strOfNums (c :: t)) = some (decide (isBl c)) := by
  unfold header_goes.f
  rw [if_neg (by rw [str_toList_nil]; simp), if_pos (by rw [strOfNums_size, List.length_cons]; omega), show (0 : Int) = ((0 : Nat) : Int) from rfl, str_bt _ h, blank_f]
  rfl
theorem ib (r : List Int) : ∀ a : List Int, byte a → (∀ c ∈ a, c ≠ 58) → Lib.indexByte (strOfNums (a ++ 58 :: r)).data.toList 58 = (a.length : Int)
  | [], _, _ => by
    rw [strOfNums_data]
    rfl
  | c :: a, hb, h => by
    have ih := ib r a (fun x hx => hb x (List.mem_cons_of_mem _ hx)) (fun x hx => h x (List.mem_cons_of_mem _ hx))
    rw [strOfNums_data] at ih ⊢
    have hc := hb c List.mem_cons_self
    have hne := h c List.mem_cons_self
    rw [List.cons_append, List.map_cons, Lib.indexByte, ih]
    rw [if_neg ?_, if_neg ?_]
    · simp
    · intro e
      have := beq_iff_eq.1 e
      omega
    · intro e
      have e2 := beq_iff_eq.1 e
      have e3 := congrArg UInt8.toNat e2
      simp at e3
      omega
theorem named_l1 (a r : List Int) (hb : byte (a ++ 58 :: r)) (hp : ∀ c ∈ a, 33 ≤ c ∧ c ≤ 126) (h0 : a ≠ []) (hs : a.length ≤ 1000) : ∀ (d j : Nat), a.length - j ≤ d → Ev (fun k => header_named.l1 k (strOfNums (a ++ 58 :: r)) (a.length : Int) (a.length : Int) (a.length : Int) (j : Int)) (strOfNums a, (a.length : Int) + 1, true) := by
  have hsz : (strOfNums (a ++ 58 :: r)).size = a.length + (r.length + 1) := by rw [strOfNums_size]; simp
  have hw0 : Aside0 (wrap64 ((a.length : Int) + 1) = (a.length : Int) + 1) := ⟨w64 (by omega) (by omega)⟩
  have hpos : 0 < a.length := List.length_pos_iff.2 h0
  intro d
  have hend : ∀ j : Nat, ¬ j < a.length → Ev (fun k => header_named.l1 k (strOfNums (a ++ 58 :: r)) (a.length : Int) (a.length : Int) (a.length : Int) (j : Int)) (strOfNums a, (a.length : Int) + 1, true) := by
    intro j hj
    refine st (fun k => by rw [header_named.l1]) ?_
    refine no (by omega) ?_
    refine yes (by omega) ?_
    refine yes (by rw [hsz]; omega) ?_
    refine fin ?_
    rw [hw0.out, Int.toNat_natCast, str_extract, List.take_left', List.drop_zero]
    · rw [decide_eq_true (by omega : (a.length : Int) > 0)]
    · rfl
  induction d with
  | zero => intro j hj; exact hend j (by omega)
  | succ d ih =>
    intro j hj
    by_cases h : j < a.length
    · have hw : Aside0 (wrap64 ((j : Int) + 1) = ((j + 1 : Nat) : Int)) := ⟨by rw [w64 (by omega) (by omega)]; omega⟩
      have hbt : bt (strOfNums (a ++ 58 :: r)) (j : Int) = a[j] := by
        rw [str_bt _ hb, rd_at _ _ (by simp; omega), List.getElem_append_left h]
      have := hp a[j] (List.getElem_mem h)
      refine st (fun k => by rw [header_named.l1]) ?_
      refine yes (by omega) ?_
      refine yes (by omega) ?_
      refine yes (by rw [hsz]; omega) ?_
      refine no (by rw [hbt]; omega) ?_
      refine no (by rw [hbt]; omega) ?_
      rw [hw.out]
      exact ih (j + 1) (by omega)
    · exact hend j h
theorem named_is (a r : List Int) (hb : byte (a ++ 58 :: r)) (hp : ∀ c ∈ a, 33 ≤ c ∧ c ≤ 126) (hc : ∀ c ∈ a, c ≠ 58) (h0 : a ≠ []) (hs : a.length ≤ 1000) : Ev (fun k => header_named.f k (strOfNums (a ++ 58 :: r))) (strOfNums a, (a.length : Int) + 1, true) := by
  have hsz : (strOfNums (a ++ 58 :: r)).size = a.length + (r.length + 1) := by rw [strOfNums_size]; simp
  have hpos : 0 < a.length := List.length_pos_iff.2 h0
  unfold header_named.f
  rw [show strings_IndexByte.f (strOfNums (a ++ 58 :: r)) 58 = some (Lib.indexByte (strOfNums (a ++ 58 :: r)).data.toList 58) from rfl, ib r a (byte_left hb) hc]
  refine bs ?_
  refine no (by omega) ?_
  refine st (fun k => by rw [header_named.l0]) ?_
  have hw : Aside0 (wrap64 ((a.length : Int) - 1) = ((a.length - 1 : Nat) : Int)) := ⟨by rw [w64 (by omega) (by omega)]; omega⟩
  refine yes (by omega) ?_
  rw [hw.out]
  refine yes (by omega) ?_
  refine yes (by rw [hsz]; omega) ?_
  have hbt : bt (strOfNums (a ++ 58 :: r)) ((a.length - 1 : Nat) : Int) = a[a.length - 1] := by
    rw [str_bt _ hb, rd_at _ _ (by simp; omega), List.getElem_append_left]
  have := hp a[a.length - 1] (List.getElem_mem (by omega))
  rw [hbt, blank_f]
  refine bs ?_
  refine no ?_ ?_
  · rw [decide_eq_true_eq]
    intro e
    rcases e with e | e <;> omega
  refine st (fun k => by rw [header_named.j1]) ?_
  exact named_l1 a r hb hp h0 hs _ 0 (Nat.le_refl _)
/-- a line that goes on with the field ahead -/
theorem st_goes {b : List Int} {x7 : Int} {x44 : List S40} {i : Nat} {m : List S31} {y : S31} {x : S40} {r : List S31 × Int} (hi : i < x44.length) (h44 : x44.length ≤ 1000) (hx : rd_T40 x44 (i : Int) = x) (hg : header_goes.f (ln_txt b x.f0 x.f1) = some true) (hm : m.length ≤ 1000)
    (h : Ev (fun k => header_Of.l0 k b x7 (m ++ [⟨y.f0, y.f1, y.f2, x.f2⟩]) true x44 (x44.length : Int) ((i + 1 : Nat) : Int)) r) : Ev (fun k => header_Of.l0 k b x7 (m ++ [y]) true x44 (x44.length : Int) (i : Int)) r := by
  have hw : Aside0 (wrap64 ((i : Int) + 1) = ((i + 1 : Nat) : Int)) := ⟨by rw [w64 (by omega) (by omega)]; omega⟩
  have hml : (m ++ [y]).length = m.length + 1 := by simp
  have hwl : Aside0 (wrap64 (((m ++ [y]).length : Int) - 1) = (m.length : Int)) := ⟨by rw [hml, w64 (by omega) (by omega)]; omega⟩
  refine st (fun k => by rw [header_Of.l0]) ?_
  rw [hx, hwl.out, rd_last31, Int.toNat_natCast, set_last]
  refine yes (by omega) ?_
  refine yes (by omega) ?_
  refine yes (by omega) ?_
  refine bs ?_
  rw [hg]
  refine bs ?_
  refine yes rfl ?_
  refine yes rfl ?_
  refine yes (by omega) ?_
  refine yes (by omega) ?_
  rw [hw.out]
  exact h
/-- a line in which a field begins -/
theorem st_named {b : List Int} {x7 : Int} {x44 : List S40} {i : Nat} {m : List S31} {on : Bool} {x : S40} {r : List S31 × Int} {nm : ByteArray} {a : Int} (hi : i < x44.length) (h44 : x44.length ≤ 1000) (hx : rd_T40 x44 (i : Int) = x) (hg : header_goes.f (ln_txt b x.f0 x.f1) = some false) (hn : Ev (fun k => header_named.f k (ln_txt b x.f0 x.f1)) (nm, a, true)) (hm : m.length ≤ 1000) (ha : 0 ≤ a ∧ a ≤ 1000) (hf : 0 ≤ x.f0 ∧ x.f0 ≤ 100000)
    (h : Ev (fun k => header_Of.l0 k b x7 (m ++ [⟨nm, x.f0, x.f0 + a, x.f2⟩]) true x44 (x44.length : Int) ((i + 1 : Nat) : Int)) r) : Ev (fun k => header_Of.l0 k b x7 m on x44 (x44.length : Int) (i : Int)) r := by
  have hw : Aside0 (wrap64 ((i : Int) + 1) = ((i + 1 : Nat) : Int)) := ⟨by rw [w64 (by omega) (by omega)]; omega⟩
  have hbody : Aside0 (wrap64 (x.f0 + a) = x.f0 + a) := ⟨w64 (by omega) (by omega)⟩
  refine st (fun k => by rw [header_Of.l0]) ?_
  rw [hx]
  refine yes (by omega) ?_
  refine yes (by omega) ?_
  refine yes (by omega) ?_
  refine bs ?_
  rw [hg]
  refine bs ?_
  refine no (by decide) ?_
  refine bnd hn ?_
  refine yes rfl ?_
  refine yes (by omega) ?_
  dsimp only
  rw [hw.out, hbody.out]
  exact h
end Go.Proofs.Ytckmfmfhhojmfaa.Fo
