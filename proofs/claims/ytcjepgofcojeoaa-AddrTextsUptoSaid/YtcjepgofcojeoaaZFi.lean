import Derived.Test.YtcjepgofcojeoaaZAn
namespace Go.Proofs.Ytcjepgofcojeoaa.P
open Go.RowKit Go.Proofs.YtcjepgofcojeoaaW.PrintWords Go.Proofs.YtcjepgofcojeoaaW.PrintLast Go.Proofs.YtcjepgofcojeoaaW.PrintMore
attribute [-simp] Int.tmod_tmod_of_dvd
set_option linter.unusedVariables false
set_option linter.unusedSimpArgs false
/-! what a reader's function may take and tell -/
abbrev RdF := List Pc → Bool × List Pc × List S27
def Fit (f : RdF) : Prop := ∀ l, pOk l → pOk (f l).2.1 ∧ (f l).2.1.length + (f l).2.2.length ≤ l.length
def RdC (w0 : World) (g : Nat) (f : RdF) (fn : Nat) (b : Bool) : Prop := ∀ (w : World) (l : List Pc) (v : Value) (out : List S27), Rs w0 w g l v out → pOk l → out.length + l.length ≤ 1000000 →
  Calls Try.prog fn #[.pointer (some ⟨g, 0, none⟩), .bool b] w fun e w' => ∃ v', e = .returned (.bool (f l).1) ∧ Rs w0 w' g (f l).2.1 v' (out ++ (f l).2.2)
theorem isP_true {l l1 : List Pc} {c : Int} (h : isP l c = (true, l1)) : l1.length + 1 = l.length := by
  unfold isP at h
  split at h
  · split at h
    · obtain ⟨_, rfl⟩ := Prod.mk.inj h; rfl
    · exact absurd (Prod.mk.inj h).1 (by decide)
  · exact absurd (Prod.mk.inj h).1 (by decide)
theorem angle_fit {name : List ByteArray} {l : List Pc} (h : pOk l) : pOk (angleP name l).2.1 ∧ (angleP name l).2.1.length + (angleP name l).2.2.length ≤ l.length := by
  have h1 := pOk.way (l.length + 1) false l h
  obtain ⟨b1, l1, e1⟩ : ∃ b1 l1, wayP l = (b1, l1) := ⟨_, _, rfl⟩
  have e1' : wayL (l.length + 1) false l = (b1, l1) := e1
  rw [e1'] at h1
  simp only at h1
  have h2 := pOk.words h1.1
  have h3 := h2.2.1.host
  have h4 := hostP_len (wordsP l1).2
  unfold angleP
  rw [e1]
  simp only
  split
  · exact ⟨h1.1, by simpa using h1.2⟩
  · split
    · exact ⟨h3, by simp; omega⟩
    · split
      · exact ⟨h3.is 62, by have := isP_len (hostP (wordsP l1).2).2.2 62; simp; omega⟩
      · rename_i hc
        obtain ⟨l6, e6⟩ : ∃ l6, isP (hostP (wordsP l1).2).2.2 62 = (true, l6) := ⟨_, Prod.ext (by revert hc; cases (isP (hostP (wordsP l1).2).2.2 62).1 <;> simp) rfl⟩
        have := isP_true e6
        refine ⟨h3.is 62, ?_⟩
        rw [e6]
        simp
        omega
def itemP (f : RdF) (b : Bool) : RdF := fun l =>
  let ws := (wordsP l).1
  let i := isP (wordsP l).2 60
  if i.1 = true then angleP ws i.2 else
  let c := if b = true then (false, i.2) else isP i.2 58
  if c.1 = true then
    let q := f c.2
    if q.1 = false then (false, q.2.1, [⟨1, sq_join ws (⟨#[32]⟩ : ByteArray), ⟨#[]⟩, ⟨#[]⟩⟩] ++ q.2.2) else
    if (isP q.2.1 59).1 = false then (false, (isP q.2.1 59).2, [⟨1, sq_join ws (⟨#[32]⟩ : ByteArray), ⟨#[]⟩, ⟨#[]⟩⟩] ++ q.2.2) else
    (true, (isP q.2.1 59).2, [⟨1, sq_join ws (⟨#[32]⟩ : ByteArray), ⟨#[]⟩, ⟨#[]⟩⟩] ++ q.2.2 ++ [⟨2, ⟨#[]⟩, ⟨#[]⟩, ⟨#[]⟩⟩])
  else if ws = [] then (true, c.2, []) else
  let h := hostP c.2
  (h.2.1, h.2.2, [⟨0, ⟨#[]⟩, sq_join ws (⟨#[]⟩ : ByteArray), h.1⟩])
def itemsL (f : RdF) : Nat → RdF
  | 0 => fun l => (false, l, [])
  | d + 1 => fun l =>
    let r := f l
    if r.1 = false then r else
    let c := isP r.2.1 44
    if c.1 = false then (true, c.2, r.2.2) else
    let q := itemsL f d c.2
    (q.1, q.2.1, r.2.2 ++ q.2.2)
def itemsP (f : RdF) : RdF := fun l => itemsL f (l.length + 1) l
theorem item_fit {f : RdF} (hf : Fit f) (b : Bool) : Fit (itemP f b) := by
  intro l h
  have h1 := pOk.words h
  have h2 := h1.2.1.is 60
  have h3 := isP_len (wordsP l).2 60
  have h3t : ∀ l6, isP (wordsP l).2 60 = (true, l6) → l6.length + 1 = (wordsP l).2.length := fun l6 => isP_true
  obtain ⟨bi, l2, e2⟩ : ∃ bi l2, isP (wordsP l).2 60 = (bi, l2) := ⟨_, _, rfl⟩
  rw [e2] at h2 h3 h3t
  simp only at h2 h3
  unfold itemP
  simp only
  rw [e2]
  simp only
  cases bi with
  | true =>
    rw [if_pos rfl]
    have := angle_fit (name := (wordsP l).1) h2
    exact ⟨this.1, by omega⟩
  | false =>
    rw [if_neg (by decide)]
    obtain ⟨bc, l3, e3⟩ : ∃ bc l3, (if b = true then (false, l2) else isP l2 58) = (bc, l3) := ⟨_, _, rfl⟩
    have h5 : pOk l3 ∧ l3.length ≤ l2.length ∧ (bc = true → l3.length + 1 = l2.length) := by
      cases b with
      | true =>
        rw [if_pos rfl] at e3
        obtain ⟨rfl, rfl⟩ := Prod.mk.inj e3
        exact ⟨h2, Nat.le_refl _, fun e => by cases e⟩
      | false =>
        rw [if_neg (by decide)] at e3
        have h6 := h2.is 58
        have h7 := isP_len l2 58
        rw [e3] at h6 h7
        exact ⟨h6, h7, fun e => by subst e; exact isP_true e3⟩
    rw [e3]
    simp only
    cases bc with
    | true =>
      rw [if_pos rfl]
      have h8 := h5.2.2 rfl
      have hq := hf l3 h5.1
      split
      · exact ⟨hq.1, by simp; omega⟩
      · have h9 := hq.1.is 59
        have h10 := isP_len (f l3).2.1 59
        split
        · exact ⟨h9, by simp; omega⟩
        · rename_i hc
          obtain ⟨l6, e6⟩ : ∃ l6, isP (f l3).2.1 59 = (true, l6) := ⟨_, Prod.ext (by revert hc; cases (isP (f l3).2.1 59).1 <;> simp) rfl⟩
          have := isP_true e6
          refine ⟨h9, ?_⟩
          rw [e6]
          simp
          omega
    | false =>
      rw [if_neg (by decide)]
      split
      · exact ⟨h5.1, by simp; omega⟩
      · rename_i hne
        have hp : 0 < (wordsP l).1.length := List.length_pos_iff.2 hne
        have h9 := hostP_len l3
        exact ⟨h5.1.host, by simp; omega⟩
theorem items_fit {f : RdF} (hf : Fit f) : Fit (itemsP f) := by
  have key : ∀ d l, pOk l → pOk (itemsL f d l).2.1 ∧ (itemsL f d l).2.1.length + (itemsL f d l).2.2.length ≤ l.length := by
    intro d
    induction d with
    | zero => intro l h; exact ⟨h, Nat.le_refl _⟩
    | succ d ih =>
      intro l h
      have h1 := hf l h
      have h2 := h1.1.is 44
      have h3 := isP_len (f l).2.1 44
      have h4 := ih _ h2
      rw [itemsL]
      simp only
      split
      · exact h1
      · split
        · exact ⟨h2, by simp; omega⟩
        · exact ⟨h4.1, by simp; omega⟩
  exact fun l h => key _ l h
set_option maxHeartbeats 1000000 in
theorem rd_items (w0 : World) (g : Nat) (f : RdF) (b : Bool) (hC : RdC w0 g f 21 b) (hf : Fit f) : RdC w0 g (itemsP f) 12 b := by
  intro w l v out h hp hol
  have H0 := Aside0.mk h
  have HP := Aside0.mk hp
  have HO := Aside0.mk hol
  clear h hp hol
  obtain ⟨R, hR⟩ : ∃ R, itemsP f l = R := ⟨_, rfl⟩
  rw [hR]
  have HW := Aside0.mk (show itemsL f (l.length + 1) l = R from hR)
  clear hR
  go_enter Try.func12, Try.ntmps12
  go_wp2
  go_loopg [4] (l.length + 1) (fun gk v4 w' => ∃ (l1 : List Pc) (v1 : Value) (o1 : List S27), v4 = .bool false ∧ Aside0 ((R.1, R.2.1, out ++ R.2.2) = ((itemsL f gk l1).1, (itemsL f gk l1).2.1, o1 ++ (itemsL f gk l1).2.2)) ∧ Aside0 (pOk l1 ∧ o1.length + l1.length ≤ 1000000 ∧ l1.length < gk) ∧ Aside0 (Rs w0 w' g l1 v1 o1))
  case atStart => exact ⟨l, v, out, rfl, ⟨by rw [HW.out]⟩, ⟨HP.out, HO.out, by omega⟩, H0⟩
  case round =>
    clear H0 HW HP HO
    obtain ⟨l1, v1, o1, rfl, hE, hS, HH⟩ := hrel
    cases gk with
    | zero => exact absurd hS.out.2.2 (by omega)
    | succ d =>
    have hc := hC wr l1 v1 o1 HH.out hS.out.1 hS.out.2.1
    have hfl := hf l1 hS.out.1
    have hE1 := hE.out
    rw [itemsL] at hE1
    simp only at hE1
    obtain ⟨b4, l4, q4, e4⟩ : ∃ b4 l4 q4, f l1 = (b4, l4, q4) := ⟨_, _, _, rfl⟩
    rw [e4] at hc hfl hE1
    simp only at hc hfl hE1
    have HC := Aside0.mk hc
    clear hc
    cases b4 with
    | false =>
      rw [if_pos rfl] at hE1
      have HE := Aside0.mk hE1
      clear hE1
      go_wp2_with (go_at_call 21; refine HC.out.mono ?_; rintro e w2 ⟨v2, rfl, h2⟩; have H2 := Aside0.mk h2; clear h2)
      go_ret
      simp only [Prod.mk.injEq] at HE
      obtain ⟨⟨a1, a2, a3⟩⟩ := HE
      exact ⟨_, by rw [a1]; rfl, by rw [a2, a3]; exact H2.out⟩
    | true =>
      rw [if_neg (by decide)] at hE1
      obtain ⟨b5, l5, e5⟩ : ∃ b5 l5, isP l4 44 = (b5, l5) := ⟨_, _, rfl⟩
      have hp5 := hfl.1.is 44
      have hl5 := isP_len l4 44
      rw [e5] at hE1 hp5 hl5
      simp only at hE1 hp5 hl5
      cases b5 with
      | false =>
        rw [if_pos rfl] at hE1
        have HE := Aside0.mk hE1
        clear hE1
        go_wp2_with (first | (go_at_call 21; refine HC.out.mono ?_; rintro e w2 ⟨v2, rfl, h2⟩; have H2 := Aside0.mk h2; clear h2) | (go_at_call 22; refine (rd_is w0 _ g l4 v2 44 H2.out.hd).mono ?_; rw [e5]; rintro e w3 ⟨rfl, h3, k3⟩; have H3 := Aside0.mk (H2.out.keep h3 k3); clear h3 k3))
        go_ret
        simp only [Prod.mk.injEq] at HE
        obtain ⟨⟨a1, a2, a3⟩⟩ := HE
        exact ⟨_, by rw [a1]; rfl, by rw [a2, a3]; exact H3.out⟩
      | true =>
        rw [if_neg (by decide)] at hE1
        have HE := Aside0.mk hE1
        have hl6 := isP_true e5
        have HB := Aside0.mk (show pOk l5 ∧ (o1 ++ q4).length + l5.length ≤ 1000000 ∧ l5.length < d by have := hS.out.2; exact ⟨hp5, by simp; omega, by omega⟩)
        clear hE1
        go_wp2_with (first | (go_at_call 21; refine HC.out.mono ?_; rintro e w2 ⟨v2, rfl, h2⟩; have H2 := Aside0.mk h2; clear h2) | (go_at_call 22; refine (rd_is w0 _ g l4 v2 44 H2.out.hd).mono ?_; rw [e5]; rintro e w3 ⟨rfl, h3, k3⟩; have H3 := Aside0.mk (H2.out.keep h3 k3); clear h3 k3))
        go_roundg d
        case measure => omega
        case rel => exact ⟨l5, _, _, rfl, ⟨by rw [HE.out, List.append_assoc]⟩, HB, H3⟩
end Go.Proofs.Ytcjepgofcojeoaa.P
