import Derived.Test.YtcjepgofcojeoaaZStr
namespace Go.Proofs.Ytcjepgofcojeoaa.P
open Go.RowKit Go.Proofs.YtcjepgofcojeoaaW.PrintWords Go.Proofs.YtcjepgofcojeoaaW.PrintLast Go.Proofs.YtcjepgofcojeoaaW.PrintMore
attribute [-simp] Int.tmod_tmod_of_dvd
set_option linter.unusedVariables false
set_option linter.unusedSimpArgs false
/-! pieces: a sign or a word -/
inductive Pc where
  | s (c : Int)
  | w (b : ByteArray)
def Pc.enc : Pc → Value
  | .s c => .iface 55 (.int .u8 c)
  | .w b => .iface 58 (.string b)
theorem Pc.one (p : Pc) : (Pc.enc p).oneCell' = true := by cases p <;> rfl
def kp : Kd Pc := Kd.scalar Pc.enc Pc.one
theorem as55_55 (v : Value) (W : World) : (Instr.typeAssert (.iface 55 v) 69 55 true).run Try.prog W = .ok (.tuple #[v, .bool true]) W := by kernel_rfl
theorem as58_55 (v : Value) (W : World) : (Instr.typeAssert (.iface 58 v) 69 55 true).run Try.prog W = .ok (.tuple #[.int .u8 0, .bool false]) W := by kernel_rfl
theorem as55_58 (v : Value) (W : World) : (Instr.typeAssert (.iface 55 v) 69 58 true).run Try.prog W = .ok (.tuple #[.string ⟨#[]⟩, .bool false]) W := by kernel_rfl
theorem as58_58 (v : Value) (W : World) : (Instr.typeAssert (.iface 58 v) 69 58 true).run Try.prog W = .ok (.tuple #[v, .bool true]) W := by kernel_rfl
attribute [local go_sem] as55_55 as58_55 as55_58 as58_58
theorem info69 : (Try.prog.info? 69).map (fun i => (i.zero, i.size, i.bytes)) = some (some .nilIface, 1, 16) := by kernel_rfl
/-- how a reader lies in memory: the pieces that are left stand in what was when it was made -/
structure Hd (w0 w : World) (g : Nat) (l : List Pc) (ov : Value) : Prop where
  row : ∃ A c, w.heap[g]? = some (.cells #[.slice A l.length c, ov] 43 (0, 0)) ∧ l.length ≤ c ∧ kp.C w0 A l.length l
  ge : w0.heap.size ≤ g
  bel : Below w0.heap.size w0 w
theorem kp_first {w0 w : World} {A : Option Addr} {p : Pc} {t : List Pc} (h : kp.C w0 A (p :: t).length (p :: t)) (hb : Below w0.heap.size w0 w) : ∃ ad, A = some ad ∧ w.cell? ad = some p.enc := by
  obtain ⟨ad, c, e, _, hK, hc⟩ := Kd.C_get (Kd.C_below h hb) p 0 (by omega) (by simp)
  have hK' : c = [p.enc] := hK
  subst hK'
  refine ⟨ad, e, ?_⟩
  have := hc 0 _ rfl
  simpa [Addr.add] using this
theorem kp_drop {w0 : World} {A : Option Addr} {p : Pc} {t : List Pc} {c : Nat} (h : kp.C w0 A (p :: t).length (p :: t)) (hc : (p :: t).length ≤ c) : kp.C w0 (if c = 1 then A else A.map (·.add 1)) t.length t := Kd.C_drop (m := 1) h (by simp) hc
theorem Hd.open {w0 w : World} {g : Nat} {p : Pc} {t : List Pc} {ov : Value} (h : Hd w0 w g (p :: t) ov) : ∃ ad cp A1, w.heap[g]? = some (.cells #[.slice (some ad) (t.length + 1) cp, ov] 43 (0, 0)) ∧ w.cell? ad = some p.enc ∧
    (∀ W : World, (Instr.slice 38 (.slice (some ad) (t.length + 1) cp) (some (.int .i64 1)) none none).run Try.prog W = .ok (.slice A1 t.length (cp - 1)) W) ∧
    Hd w0 (w.setCell ⟨g, 0, none⟩ (.slice A1 t.length (cp - 1))) g t ov := by
  obtain ⟨⟨A, cp, hg, hcp, hC⟩, hge, hbel⟩ := h
  obtain ⟨ad, rfl, hp⟩ := kp_first hC hbel
  have hD := kp_drop hC hcp
  obtain ⟨i0, hi0, _, hsz, _⟩ := info_parts info69
  have hcut := cut_from (P := Try.prog) 38 69 .i64 Try.underlying38 hi0 1 hsz (some ad) (t.length + 1) cp 1 (by omega) (by omega)
  have hcut1 : ∀ W : World, (Instr.slice 38 (.slice (some ad) (t.length + 1) cp) (some (.int .i64 1)) none none).run Try.prog W = .ok (.slice (if cp = 1 then some ad else (some ad).map (fun x : Addr => x.add 1)) t.length (cp - 1)) W := hcut
  refine ⟨ad, cp, if cp = 1 then some ad else (some ad).map (fun x : Addr => x.add 1), hg, hp, hcut1, ⟨⟨_, _, blk_put hg 0 _ rfl, ?_, hD⟩, hge, hbel.setCell (show w0.heap.size ≤ g from hge) _⟩⟩
  simp at hcp; omega
theorem Hd.nil {w0 w : World} {g : Nat} {ov : Value} (h : Hd w0 w g [] ov) : ∃ A cp, w.heap[g]? = some (.cells #[.slice A 0 cp, ov] 43 (0, 0)) := by
  obtain ⟨⟨A, cp, hg, _, _⟩, _, _⟩ := h
  exact ⟨A, cp, hg⟩
def isP : List Pc → Int → Bool × List Pc
  | .s x :: t, c => if x = c then (true, t) else (false, .s x :: t)
  | l, _ => (false, l)
theorem rd_is (w0 w : World) (g : Nat) (l : List Pc) (ov : Value) (c : Int) (h : Hd w0 w g l ov) :
    Calls Try.prog 22 #[.pointer (some ⟨g, 0, none⟩), .int .u8 c] w fun e w' => e = .returned (.bool (isP l c).1) ∧ Hd w0 w' g (isP l c).2 ov ∧ KeepBut w w' g none := by
  cases l with
  | nil =>
    obtain ⟨A, cp, hg⟩ := h.nil
    have c0 := blk_cell hg 0
    simp only [List.getElem?_toArray, List.getElem?_cons_zero, List.getElem?_cons_succ] at c0
    go_enter Try.func22, Try.ntmps22
    go_wp2
    go_ret
    exact ⟨rfl, h, KeepBut.refl _ _ _⟩
  | cons p t =>
    obtain ⟨ad, cp, A1, hg, hp, hcut, hN⟩ := h.open
    have c0 := blk_cell hg 0
    have z0 := blk_frozen hg 0
    simp only [List.getElem?_toArray, List.getElem?_cons_zero, List.getElem?_cons_succ] at c0
    have hne : ((t.length : Int) + 1 == 0) = false := by
      rw [beq_eq_false_iff_ne]; omega
    cases p with
    | w b =>
      have hp' : w.cell? ad = some (.iface 58 (.string b)) := hp
      clear hp
      go_enter Try.func22, Try.ntmps22
      go_wp2
      go_ret
      exact ⟨rfl, h, KeepBut.refl _ _ _⟩
    | s x =>
      have hp' : w.cell? ad = some (.iface 55 (.int .u8 x)) := hp
      clear hp
      by_cases hx : x = c
      · have e : isP (.s x :: t) c = (true, t) := if_pos hx
        have hd : (x == c) = true := by rw [beq_iff_eq]; exact hx
        rw [e]
        go_enter Try.func22, Try.ntmps22
        go_wp2
        go_ret
        exact ⟨rfl, hN, (KeepBut.refl _ _ _).set_ 0 _⟩
      · have e : isP (.s x :: t) c = (false, .s x :: t) := if_neg hx
        have hd : (x == c) = false := by rw [beq_eq_false_iff_ne]; exact hx
        rw [e]
        go_enter Try.func22, Try.ntmps22
        go_wp2
        go_ret
        exact ⟨rfl, h, KeepBut.refl _ _ _⟩
theorem Hd.lt {w0 w : World} {g : Nat} {l : List Pc} {ov : Value} (h : Hd w0 w g l ov) : g < w.heap.size := by
  obtain ⟨⟨A, cp, hg, _, _⟩, _, _⟩ := h
  exact blk_lt hg
theorem Hd.grown1 {w0 w w1 : World} {g : Nat} {l : List Pc} {ov : Value} {row : Option Nat} (h : Hd w0 w g l ov) (hg : w.grownBy w1 row) (hr : ∀ b, row = some b → b ≠ g ∧ w0.heap.size ≤ b) : Hd w0 w1 g l ov := by
  have hl := h.lt
  obtain ⟨⟨A, cp, hb, h1, h2⟩, hge, hbel⟩ := h
  exact ⟨⟨A, cp, (hg.block g hl (fun e => (hr g e.symm).1 rfl)).trans hb, h1, h2⟩, hge, pw_below_grown hbel _ (by omega) hg (fun k e => (hr k e).2)⟩
theorem Hd.grown {w0 w w1 : World} {g : Nat} {l : List Pc} {ov : Value} {row : Option Nat} (h : Hd w0 w g l ov) (hg : w.grownBy w1 row) (hr : ∀ b, row = some b → g < b) : Hd w0 w1 g l ov :=
  h.grown1 hg (fun b e => by have := hr b e; have := h.ge; omega)
theorem Hd.below {w0 w w1 : World} {g : Nat} {l : List Pc} {ov : Value} (h : Hd w0 w g l ov) (hb : Below w.heap.size w w1) : Hd w0 w1 g l ov := by
  have hl := h.lt
  obtain ⟨⟨A, cp, hc, h1, h2⟩, hge, hbel⟩ := h
  exact ⟨⟨A, cp, (hb.block g hl).trans hc, h1, h2⟩, hge, hbel.trans (hb.mono (by omega))⟩
def hostP (l : List Pc) : ByteArray × Bool × List Pc :=
  match isP l 64 with
  | (false, l1) => (⟨#[]⟩, true, l1)
  | (true, .w b :: t) => (b, true, t)
  | (true, l1) => (⟨#[]⟩, false, l1)
theorem rd_host (w0 w : World) (g : Nat) (l : List Pc) (ov : Value) (h : Hd w0 w g l ov) :
    Calls Try.prog 31 #[.pointer (some ⟨g, 0, none⟩)] w fun e w' => e = .returned (.tuple #[.string (hostP l).1, .bool (hostP l).2.1]) ∧ Hd w0 w' g (hostP l).2.2 ov ∧ KeepBut w w' g none := by
  have hc := rd_is w0 w g l ov 64 h
  unfold hostP
  cases hi : isP l 64 with
  | mk b l1 =>
  rw [hi] at hc
  have HC := Aside0.mk hc
  clear hc hi h
  cases b with
  | false =>
    go_enter Try.func31, Try.ntmps31
    go_wp2_with (go_at_call 22; refine HC.out.mono ?_; rintro e w2 ⟨rfl, h2, k2⟩; have H2 := Aside0.mk h2; have K2 := Aside0.mk k2; clear h2 k2)
    go_ret2
    exact ⟨rfl, H2.out, K2.out⟩
  | true =>
    cases l1 with
    | nil =>
      go_enter Try.func31, Try.ntmps31
      go_wp2_with (go_at_call 22; refine HC.out.mono ?_; rintro e w2 ⟨rfl, h2, k2⟩; obtain ⟨A, cp, hg⟩ := Hd.nil h2; have c0 := blk_cell hg 0; simp only [List.getElem?_toArray, List.getElem?_cons_zero, List.getElem?_cons_succ] at c0; have H2 := Aside0.mk h2; have K2 := Aside0.mk k2; clear h2 k2 hg)
      go_ret2
      exact ⟨rfl, H2.out, K2.out⟩
    | cons p t =>
      have hne : ((t.length : Int) + 1 == 0) = false := by
        rw [beq_eq_false_iff_ne]; omega
      cases p with
      | s x =>
        go_enter Try.func31, Try.ntmps31
        go_wp2_with (go_at_call 22; refine HC.out.mono ?_; rintro e w2 ⟨rfl, h2, k2⟩; obtain ⟨ad, cp, A1, hg, hp, hcut, hN⟩ := Hd.open h2; have hp' : w2.cell? ad = some (.iface 55 (.int .u8 x)) := hp; have c0 := blk_cell hg 0; simp only [List.getElem?_toArray, List.getElem?_cons_zero, List.getElem?_cons_succ] at c0; have H2 := Aside0.mk h2; have K2 := Aside0.mk k2; clear h2 k2 hg hp hcut hN)
        go_ret2
        exact ⟨rfl, H2.out, K2.out⟩
      | w x =>
        go_enter Try.func31, Try.ntmps31
        go_wp2_with (go_at_call 22; refine HC.out.mono ?_; rintro e w2 ⟨rfl, h2, k2⟩; obtain ⟨ad, cp, A1, hg, hp, hcut, hN⟩ := Hd.open h2; have hp' : w2.cell? ad = some (.iface 58 (.string x)) := hp; have c0 := blk_cell hg 0; have z0 := blk_frozen hg 0; simp only [List.getElem?_toArray, List.getElem?_cons_zero, List.getElem?_cons_succ] at c0; have HN := Aside0.mk hN; have K2 := Aside0.mk k2; clear h2 k2 hg hp hN)
        go_ret2
        exact ⟨rfl, HN.out, K2.out.set_ 0 _⟩
def wordsP : List Pc → List ByteArray × List Pc
  | .w b :: t => (b :: (wordsP t).1, (wordsP t).2)
  | l => ([], l)
theorem rd_words (w0 w : World) (g : Nat) (l : List Pc) (ov : Value) (h : Hd w0 w g l ov) (hl : l.length ≤ 1000000) :
    Calls Try.prog 28 #[.pointer (some ⟨g, 0, none⟩)] w fun e w' => ∃ v, e = .returned v ∧ Kd.string.R 9 w' w.heap.size (fun _ => True) v (wordsP l).1 ∧ Hd w0 w' g (wordsP l).2 ov ∧ KeepBut w w' g none := by
  have hlt := h.lt
  have HL := Aside0.mk hlt
  have H0 := Aside0.mk h
  clear h hlt
  go_enter Try.func28, Try.ntmps28
  go_wp2
  go_loopg [3] (l.length + 1) (fun gk v3 w' => ∃ (xs : List ByteArray) (l1 : List Pc), Aside0 (xs ++ (wordsP l1).1 = (wordsP l).1 ∧ (wordsP l1).2 = (wordsP l).2) ∧ Aside0 (xs.length + l1.length ≤ 1000000 ∧ l1.length < gk) ∧ Aside0 (Hd w0 w' g l1 ov) ∧ Aside0 (KeepBut w w' g none) ∧ Aside0 (Kd.string.R 9 w' w.heap.size (fun _ => True) v3 xs))
  case atStart => exact ⟨[], l, ⟨rfl, rfl⟩, ⟨by simp; omega⟩, H0, ⟨KeepBut.refl _ _ _⟩, ⟨Kd.R_nil _ _ _ _ _⟩⟩
  case round =>
    clear H0
    obtain ⟨xs, l1, hE, hS, HH, HK, HR⟩ := hrel
    cases gk with
    | zero => exact absurd hS.out.2 (by omega)
    | succ gk1 =>
    cases l1 with
    | nil =>
      obtain ⟨A, cp, hg⟩ := Hd.nil HH.out
      have c0 := blk_cell hg 0
      simp only [List.getElem?_toArray, List.getElem?_cons_zero, List.getElem?_cons_succ] at c0
      clear hg
      go_wp2
      go_ret
      have e := hE.out
      simp only [wordsP, List.append_nil] at e
      exact ⟨_, rfl, by rw [← e.1]; exact HR.out, by rw [← e.2]; exact HH.out, HK.out⟩
    | cons p t =>
      have hne : decide ((t.length : Int) + 1 > 0) = true := decide_eq_true (by omega)
      have hne2 : decide (0 < (t.length : Int) + 1) = true := decide_eq_true (by omega)
      obtain ⟨ad, cp, A1, hg, hp, hcut, hN⟩ := Hd.open HH.out
      have c0 := blk_cell hg 0
      simp only [List.getElem?_toArray, List.getElem?_cons_zero, List.getElem?_cons_succ] at c0
      clear hg
      cases p with
      | s x =>
        have hp' : wr.cell? ad = some (.iface 55 (.int .u8 x)) := hp
        clear hp hcut hN
        go_wp2
        go_ret
        have e := hE.out
        simp only [wordsP, List.append_nil] at e
        exact ⟨_, rfl, by rw [← e.1]; exact HR.out, by rw [← e.2]; exact HH.out, HK.out⟩
      | w x =>
        have hp' : wr.cell? ad = some (.iface 58 (.string x)) := hp
        clear hp hcut hN
        go_wp2_with ((with_reducible refine gate_builtin (b := .append) (xs := #[.tmp 22, .tmp 24]) rfl ?_); at_builtin; refine Kd.R_append Kd.string w.heap.size rfl (.tmp 22) (.tmp 24) 30 9 (.string ⟨#[]⟩) 16 rfl Try.underlying30 info9 rfl (by decide) (by omega) u3 xs x [.string x] (fun _ => True) (fun _ => False) rfl rfl ?aP (fun _ hk => hk.elim) ?aF ?aO (Below.refl _ _) ?aS ?aL ?_; (case aP => exact rfl); (case aF => exact (fun _ _ => trivial)); (case aO => exact HR.out); (case aS => exact HK.out.1); (case aL => have := hS.out.1; omega); intro v159 w19 ho hb hg hat; have h19 := Hd.grown HH.out hg (fun b e => by have := Kd.R_base HR.out b e; have := HL.out; omega); obtain ⟨ad2, cp2, A2, hg2, hp2, hcut2, hN2⟩ := Hd.open h19; have d0 := blk_cell hg2 0; have z0 := blk_frozen hg2 0; simp only [List.getElem?_toArray, List.getElem?_cons_zero, List.getElem?_cons_succ] at d0; have HN := Aside0.mk hN2; have HO := Aside0.mk ho; have HG := Aside0.mk hg; clear hg2 hN2 h19 ho hb hg hat hp2)
        go_roundg gk1
        case measure => have := hS.out.2; simp at this; omega
        case rel =>
          have e := hE.out
          have q := hS.out
          simp only [wordsP, List.length_cons] at e q
          exact ⟨xs ++ [x], t, ⟨by rw [List.append_assoc]; exact e⟩, ⟨by simp; omega⟩, HN, ⟨(KeepBut.trans HK.out (KeepBut.of_grown HG.out g) (Kd.R_base2 HR.out)).set_ 0 _⟩, ⟨Kd.R_mono (Kd.R_far (Kd.R_mono (Kd.R_bound HO.out) (ok' := fun k => k ≠ g) (fun k hk => by have := hk.2.1; have := HL.out; omega)) (p := ⟨g, 0, none⟩) (fun k hk => hk) _) (fun _ _ => trivial)⟩⟩
def atP : List Pc → Bool
  | .s x :: _ => x == 64
  | _ => false
def wayL : Nat → Bool → List Pc → Bool × List Pc
  | 0, _, l => (false, l)
  | d + 1, sm, l => if atP l = true then (if (hostP l).2.1 = true then wayL d true (isP (hostP l).2.2 44).2 else (false, (hostP l).2.2)) else if sm = true then isP l 58 else (true, l)
theorem isP_len (l : List Pc) (c : Int) : (isP l c).2.length ≤ l.length := by
  unfold isP
  split
  · split
    · simp
    · exact Nat.le_refl _
  · exact Nat.le_refl _
theorem hostP_len (l : List Pc) : (hostP l).2.2.length ≤ l.length := by
  have h := isP_len l 64
  unfold hostP
  cases hi : isP l 64 with
  | mk b l1 =>
    rw [hi] at h
    simp only at h
    cases b with
    | false => exact h
    | true =>
      cases l1 with
      | nil => exact h
      | cons p t =>
        cases p with
        | s x => exact h
        | w x => simp at h ⊢; omega
theorem hostP_at (l : List Pc) (h : atP l = true) : (hostP l).2.2.length < l.length := by
  cases l with
  | nil => cases h
  | cons p t =>
    cases p with
    | w x => cases h
    | s x =>
      have hx : x = 64 := by simpa [atP] using h
      have e : isP (.s x :: t) 64 = (true, t) := if_pos hx
      unfold hostP
      rw [e]
      cases t with
      | nil => simp
      | cons q r => cases q <;> simp <;> omega
theorem ieq_s (x : Int) (W : World) : (binOp BinOp.eql 69 (.iface 55 (.int .u8 x)) (.iface 55 (.int .u8 64))).run Try.prog W = .ok (.bool (x == 64)) W := by kernel_rfl
theorem ieq_w (b : ByteArray) (W : World) : (binOp BinOp.eql 69 (.iface 58 (.string b)) (.iface 55 (.int .u8 64))).run Try.prog W = .ok (.bool false) W := by kernel_rfl
def wayP (l : List Pc) : Bool × List Pc := wayL (l.length + 1) false l
theorem rd_way (w0 w : World) (g : Nat) (l : List Pc) (ov : Value) (h : Hd w0 w g l ov) :
    Calls Try.prog 34 #[.pointer (some ⟨g, 0, none⟩)] w fun e w' => e = .returned (.bool (wayP l).1) ∧ Hd w0 w' g (wayP l).2 ov ∧ KeepBut w w' g none := by
  have H0 := Aside0.mk h
  clear h
  obtain ⟨R, hR⟩ : ∃ R, wayP l = R := ⟨_, rfl⟩
  rw [hR]
  have HW := Aside0.mk (show wayL (l.length + 1) false l = R from hR)
  clear hR
  go_enter Try.func34, Try.ntmps34
  go_wp2
  go_loopg [3] (l.length + 1) (fun gk v3 w' => ∃ (sm : Bool) (l1 : List Pc), v3 = .bool sm ∧ Aside0 (wayL gk sm l1 = R ∧ l1.length < gk) ∧ Aside0 (Hd w0 w' g l1 ov) ∧ Aside0 (KeepBut w w' g none))
  case atStart => exact ⟨false, l, rfl, ⟨HW.out, by omega⟩, H0, ⟨KeepBut.refl _ _ _⟩⟩
  case round =>
    clear H0 HW
    obtain ⟨sm, l1, rfl, hE, HH, HK⟩ := hrel
    cases gk with
    | zero => exact absurd hE.out.2 (by omega)
    | succ d =>
    by_cases hat : atP l1 = true
    · obtain ⟨b, ok, l2, hh⟩ : ∃ b ok l2, hostP l1 = (b, ok, l2) := ⟨_, _, _, rfl⟩
      have hE1 : (if ok = true then wayL d true (isP l2 44).2 else (false, l2)) = R := by
        have := hE.out.1
        rw [wayL, if_pos hat, hh] at this
        exact this
      have hlen : (isP l2 44).2.length < d := by
        have h1 := hostP_at l1 hat
        rw [hh] at h1
        simp only at h1
        have h2 := isP_len l2 44
        have := hE.out.2
        omega
      have hq := rd_host w0 wr g l1 ov HH.out
      rw [hh] at hq
      have HL := Aside0.mk hlen
      have HQ := Aside0.mk hq
      clear hlen hq
      cases l1 with
      | nil => cases hat
      | cons p t =>
      cases p with
      | w x => cases hat
      | s x =>
      have hx : x = 64 := by simpa [atP] using hat
      subst hx
      have hne : decide ((t.length : Int) + 1 > 0) = true := decide_eq_true (by omega)
      have hne2 : decide (0 < (t.length : Int) + 1) = true := decide_eq_true (by omega)
      have hie : ∀ W : World, (binOp BinOp.eql 69 (.iface 55 (.int .u8 64)) (.iface 55 (.int .u8 64))).run Try.prog W = .ok (.bool true) W := fun W => ieq_s 64 W
      obtain ⟨ad, cp, A1, hg, hp, hcut, hN⟩ := Hd.open HH.out
      have hp' : wr.cell? ad = some (.iface 55 (.int .u8 64)) := hp
      have c0 := blk_cell hg 0
      simp only [List.getElem?_toArray, List.getElem?_cons_zero, List.getElem?_cons_succ] at c0
      clear hg hp hcut hN hat hh
      cases ok with
      | false =>
        rw [if_neg (by decide)] at hE1
        have HE := Aside0.mk hE1
        clear hE1
        go_wp2_with (go_at_call 31; refine HQ.out.mono ?_; rintro e w2 ⟨rfl, h2, k2⟩; have H2 := Aside0.mk h2; have K2 := Aside0.mk k2; clear h2 k2)
        go_ret
        rw [← HE.out]
        exact ⟨rfl, H2.out, KeepBut.trans HK.out K2.out (.inl rfl)⟩
      | true =>
        rw [if_pos rfl] at hE1
        have HE := Aside0.mk hE1
        clear hE1
        go_wp2_with (first | (go_at_call 31; refine HQ.out.mono ?_; rintro e w2 ⟨rfl, h2, k2⟩; have H2 := Aside0.mk h2; have K2 := Aside0.mk k2; clear h2 k2) | (go_at_call 22; refine (rd_is w0 _ g l2 ov 44 H2.out).mono ?_; rintro e w3 ⟨rfl, h3, k3⟩; have H3 := Aside0.mk h3; have K3 := Aside0.mk k3; clear h3 k3))
        go_roundg d
        case measure => omega
        case rel => exact ⟨true, _, rfl, ⟨HE.out, HL.out⟩, H3, ⟨KeepBut.trans (KeepBut.trans HK.out K2.out (.inl rfl)) K3.out (.inl rfl)⟩⟩
    · have hE1 : (if sm = true then isP l1 58 else (true, l1)) = R := by
        have := hE.out.1
        rw [wayL, if_neg hat] at this
        exact this
      have HE := Aside0.mk hE1
      clear hE1
      have HQ := Aside0.mk (rd_is w0 wr g l1 ov 58 HH.out)
      have fin0 : sm = false → (true, l1) = R := fun e => by have := HE.out; rw [e, if_neg (by decide)] at this; exact this
      have fin1 : sm = true → isP l1 58 = R := fun e => by have := HE.out; rw [e, if_pos rfl] at this; exact this
      have F0 := Aside0.mk fin0
      have F1 := Aside0.mk fin1
      clear fin0 fin1
      cases l1 with
      | nil =>
        obtain ⟨A, cp, hg⟩ := Hd.nil HH.out
        have c0 := blk_cell hg 0
        simp only [List.getElem?_toArray, List.getElem?_cons_zero, List.getElem?_cons_succ] at c0
        clear hg
        cases sm with
        | false =>
          go_wp2
          go_ret
          rw [← F0.out (by trivial)]
          exact ⟨rfl, HH.out, HK.out⟩
        | true =>
          go_wp2_with (go_at_call 22; refine HQ.out.mono ?_; rintro e w3 ⟨rfl, h3, k3⟩; have H3 := Aside0.mk h3; have K3 := Aside0.mk k3; clear h3 k3)
          go_ret
          rw [← F1.out (by trivial)]
          exact ⟨rfl, H3.out, KeepBut.trans HK.out K3.out (.inl rfl)⟩
      | cons p t =>
      have hne : decide ((t.length : Int) + 1 > 0) = true := decide_eq_true (by omega)
      have hne2 : decide (0 < (t.length : Int) + 1) = true := decide_eq_true (by omega)
      obtain ⟨ad, cp, A1, hg, hp, hcut, hN⟩ := Hd.open HH.out
      have c0 := blk_cell hg 0
      simp only [List.getElem?_toArray, List.getElem?_cons_zero, List.getElem?_cons_succ] at c0
      clear hg hcut hN
      cases p with
      | w x =>
        have hp' : wr.cell? ad = some (.iface 58 (.string x)) := hp
        have hie : ∀ W : World, (binOp BinOp.eql 69 (.iface 58 (.string x)) (.iface 55 (.int .u8 64))).run Try.prog W = .ok (.bool false) W := fun W => ieq_w x W
        clear hp hat
        cases sm with
        | false =>
          go_wp2
          go_ret
          rw [← F0.out (by trivial)]
          exact ⟨rfl, HH.out, HK.out⟩
        | true =>
          go_wp2_with (go_at_call 22; refine HQ.out.mono ?_; rintro e w3 ⟨rfl, h3, k3⟩; have H3 := Aside0.mk h3; have K3 := Aside0.mk k3; clear h3 k3)
          go_ret
          rw [← F1.out (by trivial)]
          exact ⟨rfl, H3.out, KeepBut.trans HK.out K3.out (.inl rfl)⟩
      | s x =>
        have hp' : wr.cell? ad = some (.iface 55 (.int .u8 x)) := hp
        have hx : (x == 64) = false := by simpa [atP] using hat
        have hie : ∀ W : World, (binOp BinOp.eql 69 (.iface 55 (.int .u8 x)) (.iface 55 (.int .u8 64))).run Try.prog W = .ok (.bool false) W := fun W => by
          rw [← hx]
          exact ieq_s x W
        clear hp hat
        cases sm with
        | false =>
          go_wp2
          go_ret
          rw [← F0.out (by trivial)]
          exact ⟨rfl, HH.out, HK.out⟩
        | true =>
          go_wp2_with (go_at_call 22; refine HQ.out.mono ?_; rintro e w3 ⟨rfl, h3, k3⟩; have H3 := Aside0.mk h3; have K3 := Aside0.mk k3; clear h3 k3)
          go_ret
          rw [← F1.out (by trivial)]
          exact ⟨rfl, H3.out, KeepBut.trans HK.out K3.out (.inl rfl)⟩
end Go.Proofs.Ytcjepgofcojeoaa.P
