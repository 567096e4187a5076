import Derived.Test.YtoihcdahloddkaaDoorZFind
namespace Go.Proofs.YtoihcdahloddkaaDoor.P
open Go.RowKit Go.Proofs.YtoihcdahloddkaaDoorW.PrintWords Go.Proofs.YtoihcdahloddkaaDoorW.PrintLast Go.Proofs.YtoihcdahloddkaaDoorW.PrintMore
attribute [-simp] Int.tmod_tmod_of_dvd
set_option linter.unusedVariables false
set_option linter.unusedSimpArgs false
def cs_fold (s : ByteArray) : ByteArray := strOfNums ((bytesOf s).map chars_Fold.low)
def cs_k3 : ByteArray := ⟨#[117, 115, 45, 97, 115, 99, 105, 105]⟩
def cs_k6 : ByteArray := ⟨#[97, 115, 99, 105, 105]⟩
def cs_k9 : ByteArray := ⟨#[105, 115, 111, 45, 56, 56, 53, 57, 45, 49]⟩
def cs_k12 : ByteArray := ⟨#[108, 97, 116, 105, 110, 49]⟩
def cs_k14 : ByteArray := ⟨#[117, 116, 102, 45, 56]⟩
def cs_k16 : ByteArray := ⟨#[117, 116, 102, 56]⟩
/-- which charset a name in small letters is -/
def cs_kind (s : ByteArray) : Nat := if s = cs_k3 then 1 else if s = cs_k6 then 1 else if s = cs_k9 then 2 else if s = cs_k12 then 2 else if s = cs_k14 then 3 else if s = cs_k16 then 3 else 0
def fmap (L : Array Bool) (k : ByteArray) : Option Value :=
  if k = cs_k3 then (if L.getD 3 false = true then some (cs_way 1) else none) else if k = cs_k6 then (if L.getD 6 false = true then some (cs_way 1) else none) else
  if k = cs_k9 then (if L.getD 9 false = true then some (cs_way 2) else none) else if k = cs_k12 then (if L.getD 12 false = true then some (cs_way 2) else none) else
  if k = cs_k14 then (if L.getD 14 false = true then some (cs_way 3) else none) else if k = cs_k16 then (if L.getD 16 false = true then some (cs_way 3) else none) else none
noncomputable def fops : Array Oper := ((Tryd.f14.body.bind (rg_ops 3)).getD #[])
noncomputable def fo (i : Nat) : Oper := fops.getD i default
theorem fsize : fops.size = 27 := by kernel_rfl
theorem fo_at (i : Nat) (h : i < 27) : fops[i]? = some (fo i) := by
  have h2 : i < fops.size := by rw [fsize]; exact h
  unfold fo
  rw [Array.getElem?_eq_getElem h2, Array.getD_eq_getD_getElem?, Array.getElem?_eq_getElem h2, Option.getD_some]
theorem f_low : ((List.range 27).all fun i => (needsOf .any (fo i)).all fun j => decide (j < i)) = true := by kernel_rfl
theorem needs_mem {o : Oper} {e : Edge} (he : e ∈ o.after) (hb : Region.binds .any e = true) : e.on ∈ needsOf .any o := by
  unfold needsOf
  exact List.mem_map.2 ⟨e, List.mem_filter.2 ⟨Array.mem_toList_iff.2 he, hb⟩, rfl⟩
theorem of_needs {o : Oper} {j : Nat} (h : j ∈ needsOf .any o) : ∃ e ∈ o.after, Region.binds .any e = true ∧ e.on = j := by
  unfold needsOf at h
  obtain ⟨e, he, rfl⟩ := List.mem_map.1 h
  obtain ⟨h1, h2⟩ := List.mem_filter.1 he
  exact ⟨e, Array.mem_toList_iff.1 h1, h2, rfl⟩
theorem f_low' : ∀ k o, fops[k]? = some o → ∀ e ∈ o.after, Region.binds .any e = true → e.on < k := by
  intro k o ho e he hb
  have hk : k < 27 := by rw [← fsize]; exact (Array.getElem?_eq_some_iff.1 ho).1
  obtain rfl := Option.some.inj ((fo_at k hk).symm.trans ho)
  have h1 := List.all_eq_true.1 f_low k (List.mem_range.2 hk)
  simpa using List.all_eq_true.1 h1 _ (needs_mem he hb)
theorem f_ready {L : Array Bool} {i : Nat} (h : i ∈ Region.ready .any fops L) : i < 27 ∧ L.getD i true = false ∧ ∀ j ∈ needsOf .any (fo i), L.getD j false = true := by
  obtain ⟨h1, o, ho, h2⟩ := mem_ready.1 h
  have hk : i < 27 := by rw [← fsize]; exact (Array.getElem?_eq_some_iff.1 ho).1
  obtain rfl := Option.some.inj ((fo_at i hk).symm.trans ho)
  refine ⟨hk, h1, fun j hj => ?_⟩
  obtain ⟨e, he, hb, rfl⟩ := of_needs hj
  exact h2 e he hb
/-- where each value lies: the operation, its slot -/
def fK : List (Nat × Nat) := [(1, 12), (2, 13), (4, 14), (5, 15), (7, 16), (8, 17), (10, 18), (11, 19), (13, 20), (15, 21), (18, 23), (19, 24), (20, 25), (21, 10), (22, 26), (23, 27), (26, 7)]
def fval (s : ByteArray) : Nat → Value
  | 1 | 4 | 7 | 10 => .func (.func 19) #[] #[]
  | 2 | 5 => cs_way 1
  | 8 | 11 => cs_way 2
  | 13 | 15 => cs_way 3
  | 18 => .string s
  | 19 => .string (cs_fold s)
  | 20 | 21 => .tuple #[cs_way (cs_kind (cs_fold s)), .bool (cs_kind (cs_fold s) != 0)]
  | 22 => cs_way (cs_kind (cs_fold s))
  | _ => .bool (cs_kind (cs_fold s) != 0)
/-- what holds, whatever has come up -/
structure FI (w0 : World) (s : ByteArray) (p2 p5 : Nat) (L : Array Bool) (a : Act) (w : World) : Prop where
  ls : L.size = 27
  sz : a.tmps.size = 30
  df : a.defers = []
  t0 : a.tmps.getD 0 undef = .string s
  t2 : a.tmps.getD 2 undef = .pointer (some ⟨p2, 0, none⟩)
  t3 : a.tmps.getD 3 undef = .bool false
  t4 : a.tmps.getD 4 undef = .func (.func 19) #[] #[]
  t5 : a.tmps.getD 5 undef = .pointer (some ⟨p5, 0, none⟩)
  vs : ∀ i d, (i, d) ∈ fK → L.getD i false = true → a.tmps.getD d undef = fval s i
  c0 : ∀ j ∈ [3, 6, 9, 12, 14, 16, 17], L.getD j false = true → L.getD 0 false = true
  c17 : L.getD 17 false = true → ∀ j ∈ [3, 6, 9, 12, 14, 16], L.getD j false = true
  mp : L.getD 0 false = true → ∃ B, a.tmps.getD 11 undef = .map (some B) ∧ w0.heap.size ≤ B ∧ MapIs w B (fmap L) ∧ (L.getD 17 false = true → a.tmps.getD 22 undef = .map (some B))
  c25 : L.getD 25 false = true → L.getD 24 false = true
  bx : L.getD 24 false = true → ∃ p6, a.tmps.getD 6 undef = .pointer (some ⟨p6, 0, none⟩) ∧ w0.heap.size ≤ p6 ∧ p6 ≠ p2 ∧ w.heap[p6]? = some (.cells (if L.getD 25 false = true then cs_cells (cs_kind (cs_fold s)) else cs_cells 0) 40 (0, 0))
  h2 : w.heap[p2]? = some (.cells (cs_cells 0) 40 (0, 0))
  h5 : w.heap[p5]? = some (.cells (cs_cells 3) 40 (0, 0))
  bel : Below w0.heap.size w0 w
section
variable {w0 w w' : World} {s : ByteArray} {p2 p5 : Nat} {L : Array Bool} {a : Act}
/-- the world has grown -/
theorem FI.grow (h : FI w0 s p2 p5 L a w) (hb : Below w.heap.size w w') : FI w0 s p2 p5 L a w' := by
  have hk : ∀ k, k < w.heap.size → w'.heap[k]? = w.heap[k]? := fun k hk => hb.block k hk
  refine { h with mp := fun h0 => ?_, bx := fun h24 => ?_, h2 := (hk p2 (blk_lt h.h2)).trans h.h2, h5 := (hk p5 (blk_lt h.h5)).trans h.h5, bel := h.bel.trans (hb.mono h.bel.size) }
  · obtain ⟨B, e1, e2, e3, e4⟩ := h.mp h0
    exact ⟨B, e1, e2, e3.same (hk B e3.lt) (fun _ => rfl), e4⟩
  · obtain ⟨p6, e1, e2, e3, e4⟩ := h.bx h24
    exact ⟨p6, e1, e2, e3, (hk p6 (blk_lt e4)).trans e4⟩
def fspec : List Nat := [0, 3, 6, 9, 12, 14, 16, 17, 24, 25]
theorem fmap_same {L' : Array Bool} (h : ∀ j ∈ [3, 6, 9, 12, 14, 16], L'.getD j false = L.getD j false) (k : ByteArray) : fmap L k = fmap L' k := by
  unfold fmap
  rw [h 3 (by decide), h 6 (by decide), h 9 (by decide), h 12 (by decide), h 14 (by decide), h 16 (by decide)]
theorem sp7 : ∀ j ∈ [3, 6, 9, 12, 14, 16, 17], j ∈ fspec := by decide
theorem sp6 : ∀ j ∈ [3, 6, 9, 12, 14, 16], j ∈ fspec := by decide
theorem fK_one : ∀ x ∈ fK, ∀ y ∈ fK, (x.1 = y.1 → x.2 = y.2) ∧ (x.2 = y.2 → x.1 = y.1) := by decide
theorem fK_far : ∀ x ∈ fK, x.1 ∉ fspec ∧ x.2 ∉ [0, 2, 3, 4, 5, 6, 11, 22] ∧ x.2 < 30 ∧ x.1 < 27 := by decide
/-- a value has come up -/
theorem FI.val (h : FI w0 s p2 p5 L a w) {i d : Nat} (hK : (i, d) ∈ fK) : FI w0 s p2 p5 (L.setIfInBounds i true) (a.put (some d) (fval s i)) w := by
  obtain ⟨q1, q2, q3, q4⟩ := fK_far _ hK
  have e1 : ∀ j ∈ fspec, (L.setIfInBounds i true).getD j false = L.getD j false := fun j hj => by
    rw [gl L i j (by rw [h.ls]; exact q4), if_neg (fun e => q1 (by rw [e] at hj; exact hj))]
  have e2 : ∀ j ∈ [0, 2, 3, 4, 5, 6, 11, 22], (a.put (some d) (fval s i)).tmps.getD j undef = a.tmps.getD j undef := fun j hj => by
    rw [gt a d j _ (by rw [h.sz]; exact q3), if_neg (fun e => q2 (by rw [e] at hj; exact hj))]
  refine ⟨by simpa using h.ls, by simpa [Act.put] using h.sz, h.df, (e2 0 (by decide)).trans h.t0, (e2 2 (by decide)).trans h.t2, (e2 3 (by decide)).trans h.t3, (e2 4 (by decide)).trans h.t4, (e2 5 (by decide)).trans h.t5, ?_, ?_, ?_, ?_, ?_, ?_, h.h2, h.h5, h.bel⟩
  · intro j e hj hL
    rw [gt a d e _ (by rw [h.sz]; exact q3)]
    rw [gl L i j (by rw [h.ls]; exact q4)] at hL
    by_cases hji : j = i
    · subst hji
      obtain rfl : d = e := (fK_one _ hK _ hj).1 rfl
      rw [if_pos rfl]
    · rw [if_neg hji] at hL
      rw [if_neg (fun e' => hji ((fK_one _ hj _ hK).2 e'))]
      exact h.vs j e hj hL
  · intro j hj hL
    have hj2 : j ∈ fspec := sp7 j hj
    rw [e1 j hj2] at hL
    rw [e1 0 (by decide)]
    exact h.c0 j hj hL
  · intro h17 j hj
    have hj2 : j ∈ fspec := sp6 j hj
    rw [e1 17 (by decide)] at h17
    rw [e1 j hj2]
    exact h.c17 h17 j hj
  · intro h0
    rw [e1 0 (by decide)] at h0
    obtain ⟨B, b1, b2, b3, b4⟩ := h.mp h0
    refine ⟨B, (e2 11 (by decide)).trans b1, b2, b3.same rfl (fmap_same (fun j hj => e1 j (sp6 j hj))), fun h17 => ?_⟩
    rw [e1 17 (by decide)] at h17
    exact (e2 22 (by decide)).trans (b4 h17)
  · intro h25
    rw [e1 25 (by decide)] at h25
    rw [e1 24 (by decide)]
    exact h.c25 h25
  · intro h24
    rw [e1 24 (by decide)] at h24
    obtain ⟨p6, b1, b2, b3, b4⟩ := h.bx h24
    exact ⟨p6, (e2 6 (by decide)).trans b1, b2, b3, by rw [e1 25 (by decide)]; exact b4⟩
end
end Go.Proofs.YtoihcdahloddkaaDoor.P
