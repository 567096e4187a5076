import Derived.Test.YtoihcdahloddkaaDoorZVal0
import Derived.Deep.QuietTactic
import Derived.BigQuiet
import Derived.Deep.DeepCutAuto
import Derived.Deep.CutBlock
namespace Go.Proofs.YtoihcdahloddkaaDoor.P
open Go.RowKit Go.Proofs.YtoihcdahloddkaaDoorW.PrintWords Go.Proofs.YtoihcdahloddkaaDoorW.PrintLast Go.Proofs.YtoihcdahloddkaaDoorW.PrintMore Go.Proofs.YtoihcdahloddkaaDoor.Aids
attribute [-simp] Int.tmod_tmod_of_dvd
set_option linter.unusedVariables false
set_option linter.unusedSimpArgs false
theorem cs_word (A : Option Addr) (c n : Nat) (l : List Int) (w : World) (hR : ReadsInt w .u8 A n l) (hc : n ≤ c) (hb : byte l) (h8 : 8 ≤ n) :
    Calls Tryd.prog 31 #[.slice A n c] w fun e w' => e = .returned (.int .u64 ((w8 l : Nat) : Int)) ∧ ∃ q, w' = w.drewN q := by
  obtain rfl : l.length = n := hR.1
  exact (utf8_word_byte.calls A c l _ w (Kd.C_of_reads (d := (0 : Int)) (h1 := fun _ => rfl) hR) hc (word_f l hb h8)).mono fun e w' h => ⟨h.1, by obtain ⟨q, hq⟩ := h.2; exact ⟨q, hq⟩⟩
/-- a row of bytes, as a round finds it -/
structure VI (w0 : World) (ans : Bool) (wr : World) (A : Option Addr) (n : Nat) (t : List Int) : Prop where
  row : ReadsInt wr .u8 A n t
  by_ : byte t
  val : validL t = ans
  bel : Below w0.heap.size w0 wr
  le : n < 1000000
section
variable {w0 wr w1 : World} {ans : Bool} {A : Option Addr} {n m k : Nat} {t : List Int}
theorem VI.below (h : VI w0 ans wr A n t) (hb : Below wr.heap.size wr w1) : VI w0 ans w1 A n t :=
  ⟨h.row.below hb, h.by_, h.val, h.bel.trans (hb.mono h.bel.size), h.le⟩
theorem VI.draw (h : VI w0 ans wr A n t) (q : Nat) : VI w0 ans (wr.drewN q) A n t := ⟨h.row.drewN q, h.by_, h.val, pw_below_drewN h.bel q, h.le⟩
theorem VI.cut (h : VI w0 ans wr A n t) (hm : n - k = m) (hk : k ≤ n) (hv : validL (t.drop k) = validL t) (z : Int) (hz : (k : Int) = z) : ∃ A' : Option Addr, (∀ W : World, (Instr.slice 22 (.slice A n n) (some (.int .i64 z)) none none).run Tryd.prog W = .ok (.slice A' m m) W) ∧
    ∀ w2, VI w0 ans w2 A n t → VI w0 ans w2 A' m (t.drop k) := by
  subst hm
  subst hz
  obtain ⟨i5, hi5, hz5⟩ : ∃ i, Tryd.prog.info? 5 = some i ∧ i.size = 1 := ⟨_, rfl, by kernel_rfl⟩
  obtain ⟨A', h1, h2⟩ := print_cut (P := Tryd.prog) 22 5 .i64 Tryd.underlying22 hi5 hz5 A n n k hk
  exact ⟨A', h1, fun w2 h3 => ⟨h2 w2 .u8 t (Nat.le_refl _) h3.row, byte_drop h3.by_ k, hv.trans h3.val, h3.bel, by have := h.le; omega⟩⟩
theorem quiet_from {P : Program} {f : FuncId} {args : Array Value} {w : World} {a : Nat} {v : Value} (h : Calls P f args (w.drewN a) fun e w' => e = .returned v ∧ ∃ m, w' = (w.drewN a).drewN m) :
    Calls P f args (w.drewN a) fun e w'' => e = .returned v ∧ ∃ m, w'' = w.drewN m :=
  h.mono fun e w' ⟨he, m, hm⟩ => ⟨he, a + m, by rw [hm, World.drewN_drewN]⟩
theorem VI.tail (h : VI w0 ans wr A n t) (hm : n - k = m) (hk : k ≤ n) (z : Int) (hz : (k : Int) = z) : ∃ A' : Option Addr, (∀ W : World, (Instr.slice 22 (.slice A n n) (some (.int .i64 z)) none none).run Tryd.prog W = .ok (.slice A' m m) W) ∧
    ∀ w2, VI w0 ans w2 A n t → ReadsInt w2 .u8 A' m (t.drop k) := by
  subst hm
  subst hz
  obtain ⟨i5, hi5, hz5⟩ : ∃ i, Tryd.prog.info? 5 = some i ∧ i.size = 1 := ⟨_, rfl, by kernel_rfl⟩
  obtain ⟨A', h1, h2⟩ := print_cut (P := Tryd.prog) 22 5 .i64 Tryd.underlying22 hi5 hz5 A n n k hk
  exact ⟨A', h1, fun w2 h3 => h2 w2 .u8 t (Nat.le_refl _) h3.row⟩
theorem VI.at0 (h : VI w0 ans wr A n t) (i : Nat) (hi : i < n) : ∃ ad, A = some ad ∧ wr.cell? (ad.add i) = some (.int .u8 (rd t i)) := by
  obtain ⟨ad, e, hx⟩ := h.row.at_ (i : Int) (by omega) (by omega)
  exact ⟨ad, e, by simpa using hx⟩
theorem VI.asc (h : VI w0 ans wr A n t) (hk : ∀ i : Nat, i < k → i < n → rd t (i : Int) < 128) : validL (t.drop k) = validL t := valid_asc t h.by_ k (fun i h1 h2 => hk i h1 (by rw [← h.row.1]; exact h2))
end
theorem rd_drop (t : List Int) (a : Nat) (i : Nat) : rd (t.drop a) (i : Int) = rd t ((a + i : Nat) : Int) := by
  unfold rd
  rw [Int.toNat_natCast, Int.toNat_natCast, List.getD_eq_getElem?_getD, List.getD_eq_getElem?_getD, List.getElem?_drop]
theorem asc_more {t : List Int} {a b : Nat} (h1 : ∀ i : Nat, i < a → rd t (i : Int) < 128) (h2 : ∀ i : Nat, i < b → rd (t.drop a) (i : Int) < 128) : ∀ i : Nat, i < a + b → rd t (i : Int) < 128 := by
  intro i hi
  by_cases h : i < a
  · exact h1 i h
  · have := h2 (i - a) (by omega)
    rw [rd_drop, show a + (i - a) = i by omega] at this
    exact this
theorem rd_nat {t : List Int} (h : byte t) (i : Nat) : ∃ k : Nat, rd t (i : Int) = (k : Int) ∧ k < 256 := by
  have := rd_byte t h i
  exact ⟨(rd t (i : Int)).toNat, by omega, by omega⟩
set_option maxHeartbeats 16000000 in
set_option maxRecDepth 1000000 in
theorem cs_Valid (A : Option Addr) (c : Nat) (l : List Int) (w : World) (hC : Kd.C (Kd.int .u8) w A l.length l) (hc : l.length ≤ c) (hl : l.length < 1000000) (hb : byte l) (hT : Lib.Utf8Tabs 0 1 w) :
    Calls Tryd.prog 28 #[.slice A l.length c] w fun e w' => e = .returned (.bool (validL l)) ∧ Below w.heap.size w w' := by
  have H0 : Aside0 (VI w (validL l) w A l.length l) := ⟨Kd.reads_of_C hC, hb, rfl, Below.refl _ _, hl⟩
  obtain ⟨ans, hans⟩ : ∃ ans, validL l = ans := ⟨_, rfl⟩
  obtain ⟨n, hn⟩ : ∃ n, l.length = n := ⟨_, rfl⟩
  rw [hn] at hC hc hl H0 ⊢
  rw [hans] at H0 ⊢
  have HT := Aside0.mk hT
  clear hn hC hb hT hans
  go_enter Tryd.func28, Tryd.ntmps28
  go_wp2_with fail
  go_loopg [0] (n + 1) (fun gk s0 wr => ∃ (A : Option Addr) (n : Nat) (t : List Int), s0 = .slice A n n ∧ n < gk ∧ Aside0 (VI w ans wr A n t))
  case atStart => exact ⟨A, n, l, rfl, by omega, H0⟩
  case round =>
    clear H0 hc hl
    obtain ⟨A, n, t, rfl, hg, HI⟩ := hrel
    have hle := HI.out.le
    by_cases h0 : 0 < n
    case neg => as_aux_lemma =>
      have HA : Aside0 (ans = true) := ⟨by rw [← HI.out.val, List.eq_nil_of_length_eq_zero (HI.out.row.1.trans (by omega))]; rfl⟩
      have hza : decide ((0 : Int) < (n : Int)) = false := decide_eq_false (by omega)
      have hzb : decide (0 < n) = false := decide_eq_false (by omega)
      have hzc : (0 < n) = False := eq_false (by omega)
      have hzd : ((0 : Int) < (n : Int)) = False := eq_false (by omega)
      clear h0
      go_wp2
      go_ret
      exact ⟨by rw [HA.out]; rfl, HI.out.bel⟩
    obtain ⟨g', rfl⟩ : ∃ g', gk = g' + 1 := ⟨gk - 1, by omega⟩
    obtain ⟨ad, rfl, hx0⟩ := HI.out.at0 0 h0
    obtain ⟨x0, hx0e, hb0⟩ := rd_nat HI.out.by_ 0
    rw [hx0e, Addr.add_zero'] at hx0
    have HX0 := Aside0.mk hx0e
    clear hx0e
    have z0a : decide ((0 : Int) < (n : Int)) = true := decide_eq_true (by omega)
    have z0b : decide (0 < n) = true := decide_eq_true (by omega)
    have z0c : (0 < n) = True := eq_true (by omega)
    have z0d : ((0 : Int) < (n : Int)) = True := eq_true (by omega)
    by_cases hasc : x0 < 128
    · as_aux_lemma =>
      obtain ⟨m1, hm1⟩ : ∃ m1, n - 1 = m1 := ⟨_, rfl⟩
      obtain ⟨A1, hs1, hV1⟩ := HI.out.cut (k := 1) hm1 (by omega) (HI.out.asc (fun i h1 _ => by
        have h2 : i = 0 := by omega
        rw [h2, HX0.out]
        omega)) 1 rfl
      have H1 := Aside0.mk (hV1 _ HI.out)
      have hl1 : m1 < n := by omega
      have hle1 := H1.out.le
      have asa : decide ((x0 : Int) < (128 : Int)) = true := decide_eq_true (by omega)
      have asb : decide (x0 < 128) = true := decide_eq_true (by omega)
      have asc : (x0 < 128) = True := eq_true (by omega)
      have asd : ((x0 : Int) < (128 : Int)) = True := eq_true (by omega)
      clear hV1 hm1 hasc HX0
      by_cases c8 : 8 < m1
      case neg => as_aux_lemma =>
        have e8a : decide ((8 : Int) < (m1 : Int)) = false := decide_eq_false (by omega)
        have e8b : decide (8 < m1) = false := decide_eq_false (by omega)
        have e8c : (8 < m1) = False := eq_false (by omega)
        have e8d : ((8 : Int) < (m1 : Int)) = False := eq_false (by omega)
        clear c8
        go_wp2
        go_roundg g'
        case measure => omega
        case rel => exact ⟨A1, m1, _, rfl, by omega, H1⟩
      have e8a : decide ((8 : Int) < (m1 : Int)) = true := decide_eq_true (by omega)
      have e8b : decide (8 < m1) = true := decide_eq_true (by omega)
      have e8c : (8 < m1) = True := eq_true (by omega)
      have e8d : ((8 : Int) < (m1 : Int)) = True := eq_true (by omega)
      obtain ⟨t1, ht1⟩ : ∃ t1, t.drop 1 = t1 := ⟨_, rfl⟩
      rw [ht1] at H1
      have HW1 : Aside0 (∀ W, VI w ans W A1 m1 t1 → Calls Tryd.prog 31 #[.slice A1 m1 m1] W fun e w' => e = .returned (.int .u64 ((w8 t1 : Nat) : Int)) ∧ ∃ q, w' = W.drewN q) := ⟨fun W h => cs_word A1 m1 m1 t1 W h.row (Nat.le_refl _) h.by_ (by omega)⟩
      have hand1 : bits .and .u64 ((w8 t1 : Nat) : Int) 9259542123273814144 = ((w8 t1 &&& 9259542123273814144 : Nat) : Int) := u64_and_nat _ 9259542123273814144 (w8_lt t1) (by decide)
      have HZ1 : Aside0 (w8 t1 &&& 9259542123273814144 = 0 → ∀ i : Nat, i < 8 → rd t1 (i : Int) < 128) := ⟨w8_asc t1 H1.out.by_ (by have := H1.out.row.1; omega)⟩
      generalize w8 t1 = W1 at hand1 HZ1 HW1
      generalize W1 &&& 9259542123273814144 = Z1 at hand1 HZ1
      clear ht1 HI
      by_cases Z1z : Z1 = 0
      case neg => as_aux_lemma =>
        have Z1b : ((Z1 : Int) == 0) = false := by simp; omega
        go_wp2_with (go_at_call 31; refine (HW1.out _ H1.out).mono ?_; rintro e W2 ⟨rfl, q1, rfl⟩)
        go_roundg g'
        case measure => omega
        case rel => exact ⟨A1, m1, t1, rfl, by omega, ⟨H1.out.draw q1⟩⟩
      have Z1b : ((Z1 : Int) == 0) = true := by simp [Z1z]
      obtain ⟨m2, hm2⟩ : ∃ m2, m1 - 8 = m2 := ⟨_, rfl⟩
      obtain ⟨A2, hs2, hV2⟩ := H1.out.cut (k := 8) hm2 (by omega) (H1.out.asc (fun i h1 _ => HZ1.out Z1z i h1)) 8 rfl
      have hl2 : m2 < n := by omega
      have HV2 := Aside0.mk hV2
      clear hV2 Z1z HZ1 hm2
      obtain ⟨t2, ht2⟩ : ∃ t2, t1.drop 8 = t2 := ⟨_, rfl⟩
      rw [ht2] at HV2
      clear ht2
      go_wp2_with (go_at_call 31; refine (HW1.out _ H1.out).mono ?_; rintro e W2 ⟨rfl, q1, rfl⟩)
      have H2 := Aside0.mk (HV2.out _ (H1.out.draw q1))
      clear HV2 H1 HW1 hx0 hs1 hs2 hand1 Z1b
      generalize wr.drewN q1 = wq at H2 ⊢
      have hle2 := H2.out.le
      by_cases c16 : 16 < m2
      case neg => as_aux_lemma =>
        have e16a : decide ((16 : Int) < (m2 : Int)) = false := decide_eq_false (by omega)
        have e16b : decide (16 < m2) = false := decide_eq_false (by omega)
        have e16c : (16 < m2) = False := eq_false (by omega)
        have e16d : ((16 : Int) < (m2 : Int)) = False := eq_false (by omega)
        go_quiet (fail)
        go_wp2
        go_roundg g'
        case measure => omega
        case rel => exact ⟨A2, m2, t2, rfl, by omega, ⟨H2.out.draw _⟩⟩
      have e16a : decide ((16 : Int) < (m2 : Int)) = true := decide_eq_true (by omega)
      have e16b : decide (16 < m2) = true := decide_eq_true (by omega)
      have e16c : (16 < m2) = True := eq_true (by omega)
      have e16d : ((16 : Int) < (m2 : Int)) = True := eq_true (by omega)
      obtain ⟨mb, hmb⟩ : ∃ mb, m2 - 8 = mb := ⟨_, rfl⟩
      obtain ⟨Ab, hsb, hRb⟩ := H2.out.tail (k := 8) hmb (by omega) 8 rfl
      have HW2 : Aside0 (∀ q, Calls Tryd.prog 31 #[.slice A2 m2 m2] (wq.drewN q) fun e w' => e = .returned (.int .u64 ((w8 t2 : Nat) : Int)) ∧ ∃ m, w' = wq.drewN m) := ⟨fun q => quiet_from (cs_word A2 m2 m2 t2 (wq.drewN q) (H2.out.draw q).row (Nat.le_refl _) H2.out.by_ (by omega))⟩
      have HWb : Aside0 (∀ q, Calls Tryd.prog 31 #[.slice Ab mb mb] (wq.drewN q) fun e w' => e = .returned (.int .u64 ((w8 (t2.drop 8) : Nat) : Int)) ∧ ∃ m, w' = wq.drewN m) := ⟨fun q => quiet_from (cs_word Ab mb mb (t2.drop 8) (wq.drewN q) (hRb _ (H2.out.draw q)) (Nat.le_refl _) (byte_drop H2.out.by_ 8) (by omega))⟩
      have hor2 : bits .or .u64 ((w8 t2 : Nat) : Int) ((w8 (t2.drop 8) : Nat) : Int) = ((w8 t2 ||| w8 (t2.drop 8) : Nat) : Int) := u64_or_nat _ _ (w8_lt _) (w8_lt _)
      have hand2 : bits .and .u64 ((w8 t2 ||| w8 (t2.drop 8) : Nat) : Int) 9259542123273814144 = (((w8 t2 ||| w8 (t2.drop 8)) &&& 9259542123273814144 : Nat) : Int) := u64_and_nat _ 9259542123273814144 (Nat.or_lt_two_pow (n := 64) (w8_lt _) (w8_lt _)) (by decide)
      have HZ2 : Aside0 ((w8 t2 ||| w8 (t2.drop 8)) &&& 9259542123273814144 = 0 → ∀ i : Nat, i < 16 → rd t2 (i : Int) < 128) := ⟨fun h => by
        obtain ⟨e1, e2⟩ := (Lib.or_mask _ _ _).1 h
        have hlen := H2.out.row.1
        exact asc_more (a := 8) (b := 8) (w8_asc t2 H2.out.by_ (by omega) e1) (w8_asc _ (byte_drop H2.out.by_ 8) (by rw [List.length_drop]; omega) e2)⟩
      generalize w8 t2 ||| w8 (t2.drop 8) = O2 at hor2 hand2 HZ2
      generalize w8 t2 = W2 at hor2 HW2
      generalize w8 (t2.drop 8) = W3 at hor2 HWb
      generalize O2 &&& 9259542123273814144 = Z2 at hand2 HZ2
      clear hRb hmb
      by_cases Z2z : Z2 = 0
      case neg => as_aux_lemma =>
        have Z2b : ((Z2 : Int) == 0) = false := by simp; omega
        go_quiet (first | (go_at_call 31; with_reducible exact HW2.out _) | (go_at_call 31; with_reducible exact HWb.out _))
        go_wp2
        go_roundg g'
        case measure => omega
        case rel => exact ⟨A2, m2, t2, rfl, by omega, ⟨H2.out.draw _⟩⟩
      have Z2b : ((Z2 : Int) == 0) = true := by simp [Z2z]
      obtain ⟨m3, hm3⟩ : ∃ m3, m2 - 16 = m3 := ⟨_, rfl⟩
      obtain ⟨A3, hs3, hV3⟩ := H2.out.cut (k := 16) hm3 (by omega) (H2.out.asc (fun i h1 _ => HZ2.out Z2z i h1)) 16 rfl
      have hl3 : m3 < n := by omega
      have HV3 := Aside0.mk hV3
      clear hV3 Z2z HZ2 hm3
      obtain ⟨t3, ht3⟩ : ∃ t3, t2.drop 16 = t3 := ⟨_, rfl⟩
      rw [ht3] at HV3
      clear ht3
      go_quiet (first | (go_at_call 31; with_reducible exact HW2.out _) | (go_at_call 31; with_reducible exact HWb.out _))
      go_wp2_with fail
      have H3 := Aside0.mk (HV3.out _ (H2.out.draw nq))
      clear HV3 H2 HW2 HWb hs3 hsb hor2 hand2 Z2b
      generalize wq.drewN nq = wq3 at H3 ⊢
      clear e16a e16b e16c e16d c16 e8a e8b e8c e8d c8
      go_loopg [0] (m3 + 1) (fun g2 s0 wx => ∃ (A : Option Addr) (m : Nat) (t : List Int), s0 = .slice A m m ∧ m < g2 ∧ m ≤ m3 ∧ Aside0 (VI w ans wx A m t))
      case atStart => exact ⟨A3, m3, t3, rfl, by omega, Nat.le_refl _, H3⟩
      case round => as_aux_lemma =>
        clear H3
        obtain ⟨A, m, u, rfl, hgm, hmm, HU⟩ := hrel
        have hleu := HU.out.le
        by_cases c32 : 32 < m
        case neg => as_aux_lemma =>
          have e32a : decide ((32 : Int) < (m : Int)) = false := decide_eq_false (by omega)
          have e32b : decide (32 < m) = false := decide_eq_false (by omega)
          have e32c : (32 < m) = False := eq_false (by omega)
          have e32d : ((32 : Int) < (m : Int)) = False := eq_false (by omega)
          go_wp2_with fail
          go_quiet (fail)
          go_wp2
          go_roundg g'
          case measure => omega
          case rel => exact ⟨A, m, u, rfl, by omega, ⟨HU.out.draw _⟩⟩
        obtain ⟨g3, rfl⟩ : ∃ g3, gk = g3 + 1 := ⟨gk - 1, by omega⟩
        have e32a : decide ((32 : Int) < (m : Int)) = true := decide_eq_true (by omega)
        have e32b : decide (32 < m) = true := decide_eq_true (by omega)
        have e32c : (32 < m) = True := eq_true (by omega)
        have e32d : ((32 : Int) < (m : Int)) = True := eq_true (by omega)
        obtain ⟨mb, hmb⟩ : ∃ mb, m - 8 = mb := ⟨_, rfl⟩
        obtain ⟨mc, hmc⟩ : ∃ mc, m - 16 = mc := ⟨_, rfl⟩
        obtain ⟨md, hmd⟩ : ∃ md, m - 24 = md := ⟨_, rfl⟩
        obtain ⟨Ab, hsb, hRb⟩ := HU.out.tail (k := 8) hmb (by omega) 8 rfl
        obtain ⟨Ac, hsc, hRc⟩ := HU.out.tail (k := 16) hmc (by omega) 16 rfl
        obtain ⟨Ad, hsd, hRd⟩ := HU.out.tail (k := 24) hmd (by omega) 24 rfl
        have HW0 : Aside0 (∀ q, Calls Tryd.prog 31 #[.slice A m m] (wr.drewN q) fun e w' => e = .returned (.int .u64 ((w8 u : Nat) : Int)) ∧ ∃ m, w' = wr.drewN m) := ⟨fun q => quiet_from (cs_word A m m u (wr.drewN q) (HU.out.draw q).row (Nat.le_refl _) HU.out.by_ (by omega))⟩
        have HWb : Aside0 (∀ q, Calls Tryd.prog 31 #[.slice Ab mb mb] (wr.drewN q) fun e w' => e = .returned (.int .u64 ((w8 (u.drop 8) : Nat) : Int)) ∧ ∃ m, w' = wr.drewN m) := ⟨fun q => quiet_from (cs_word Ab mb mb (u.drop 8) (wr.drewN q) (hRb _ (HU.out.draw q)) (Nat.le_refl _) (byte_drop HU.out.by_ 8) (by omega))⟩
        have HWc : Aside0 (∀ q, Calls Tryd.prog 31 #[.slice Ac mc mc] (wr.drewN q) fun e w' => e = .returned (.int .u64 ((w8 (u.drop 16) : Nat) : Int)) ∧ ∃ m, w' = wr.drewN m) := ⟨fun q => quiet_from (cs_word Ac mc mc (u.drop 16) (wr.drewN q) (hRc _ (HU.out.draw q)) (Nat.le_refl _) (byte_drop HU.out.by_ 16) (by omega))⟩
        have HWd : Aside0 (∀ q, Calls Tryd.prog 31 #[.slice Ad md md] (wr.drewN q) fun e w' => e = .returned (.int .u64 ((w8 (u.drop 24) : Nat) : Int)) ∧ ∃ m, w' = wr.drewN m) := ⟨fun q => quiet_from (cs_word Ad md md (u.drop 24) (wr.drewN q) (hRd _ (HU.out.draw q)) (Nat.le_refl _) (byte_drop HU.out.by_ 24) (by omega))⟩
        have lb := w8_lt u
        have lc := w8_lt (u.drop 8)
        have ld := w8_lt (u.drop 16)
        have le := w8_lt (u.drop 24)
        have l1 : w8 u ||| w8 (u.drop 8) < 18446744073709551616 := Nat.or_lt_two_pow (n := 64) lb lc
        have l2 : w8 (u.drop 16) ||| w8 (u.drop 24) < 18446744073709551616 := Nat.or_lt_two_pow (n := 64) ld le
        have ho1 : bits .or .u64 ((w8 u : Nat) : Int) ((w8 (u.drop 8) : Nat) : Int) = ((w8 u ||| w8 (u.drop 8) : Nat) : Int) := u64_or_nat _ _ lb lc
        have ho2 : bits .or .u64 ((w8 (u.drop 16) : Nat) : Int) ((w8 (u.drop 24) : Nat) : Int) = ((w8 (u.drop 16) ||| w8 (u.drop 24) : Nat) : Int) := u64_or_nat _ _ ld le
        have ho3 : bits .or .u64 ((w8 u ||| w8 (u.drop 8) : Nat) : Int) ((w8 (u.drop 16) ||| w8 (u.drop 24) : Nat) : Int) = (((w8 u ||| w8 (u.drop 8)) ||| (w8 (u.drop 16) ||| w8 (u.drop 24)) : Nat) : Int) := u64_or_nat _ _ l1 l2
        have hand3 : bits .and .u64 (((w8 u ||| w8 (u.drop 8)) ||| (w8 (u.drop 16) ||| w8 (u.drop 24)) : Nat) : Int) 9259542123273814144 = ((((w8 u ||| w8 (u.drop 8)) ||| (w8 (u.drop 16) ||| w8 (u.drop 24))) &&& 9259542123273814144 : Nat) : Int) := u64_and_nat _ 9259542123273814144 (Nat.or_lt_two_pow (n := 64) l1 l2) (by decide)
        have HZ3 : Aside0 (((w8 u ||| w8 (u.drop 8)) ||| (w8 (u.drop 16) ||| w8 (u.drop 24))) &&& 9259542123273814144 = 0 → ∀ i : Nat, i < 32 → rd u (i : Int) < 128) := ⟨fun h => by
          obtain ⟨e12, e34⟩ := (Lib.or_mask _ _ _).1 h
          obtain ⟨e1, e2⟩ := (Lib.or_mask _ _ _).1 e12
          obtain ⟨e3, e4⟩ := (Lib.or_mask _ _ _).1 e34
          have hlen := HU.out.row.1
          have hby := HU.out.by_
          exact asc_more (a := 24) (b := 8) (asc_more (a := 16) (b := 8) (asc_more (a := 8) (b := 8) (w8_asc u hby (by omega) e1) (w8_asc _ (byte_drop hby 8) (by rw [List.length_drop]; omega) e2)) (w8_asc _ (byte_drop hby 16) (by rw [List.length_drop]; omega) e3)) (w8_asc _ (byte_drop hby 24) (by rw [List.length_drop]; omega) e4)⟩
        clear lb lc ld le l1 l2 hRb hRc hRd
        generalize (w8 u ||| w8 (u.drop 8)) ||| (w8 (u.drop 16) ||| w8 (u.drop 24)) = P3 at ho3 hand3 HZ3
        generalize w8 u ||| w8 (u.drop 8) = P1 at ho1 ho3
        generalize w8 (u.drop 16) ||| w8 (u.drop 24) = P2 at ho2 ho3
        generalize w8 u = B0 at ho1 HW0
        generalize w8 (u.drop 8) = B1 at ho1 HWb
        generalize w8 (u.drop 16) = B2 at ho2 HWc
        generalize w8 (u.drop 24) = B3 at ho2 HWd
        generalize P3 &&& 9259542123273814144 = Z3 at hand3 HZ3
        clear hmb hmc hmd
        by_cases Z3z : Z3 = 0
        case neg => as_aux_lemma =>
          have Z3b : ((Z3 : Int) == 0) = false := by simp; omega
          go_wp2_with fail
          go_quiet (first | (go_at_call 31; with_reducible exact HW0.out _) | (go_at_call 31; with_reducible exact HWb.out _) | (go_at_call 31; with_reducible exact HWc.out _) | (go_at_call 31; with_reducible exact HWd.out _))
          go_wp2
          go_roundg g'
          case measure => omega
          case rel => exact ⟨A, m, u, rfl, by omega, ⟨HU.out.draw _⟩⟩
        have Z3b : ((Z3 : Int) == 0) = true := by simp [Z3z]
        obtain ⟨m4, hm4⟩ : ∃ m4, m - 32 = m4 := ⟨_, rfl⟩
        obtain ⟨A4, hs4, hV4⟩ := HU.out.cut (k := 32) hm4 (by omega) (HU.out.asc (fun i h1 _ => HZ3.out Z3z i h1)) 32 rfl
        have hl4 : m4 < m := by omega
        have HV4 := Aside0.mk hV4
        clear hV4 Z3z HZ3 hm4
        go_wp2_with fail
        go_quiet (first | (go_at_call 31; with_reducible exact HW0.out _) | (go_at_call 31; with_reducible exact HWb.out _) | (go_at_call 31; with_reducible exact HWc.out _) | (go_at_call 31; with_reducible exact HWd.out _))
        go_wp2
        go_roundg g3
        case measure => omega
        case rel => exact ⟨A4, m4, _, rfl, by omega, by omega, ⟨HV4.out _ (HU.out.draw _)⟩⟩
    · as_aux_lemma =>
      have hge : 128 ≤ x0 := by omega
      have hTr := Utf8Tabs_below HT.out HI.out.bel
      have asa : decide ((x0 : Int) < (128 : Int)) = false := decide_eq_false (by omega)
      have asb : decide (x0 < 128) = false := decide_eq_false (by omega)
      have asc : (x0 < 128) = False := eq_false (by omega)
      have asd : ((x0 : Int) < (128 : Int)) = False := eq_false (by omega)
      obtain ⟨x1, hx1e, hb1⟩ := rd_nat HI.out.by_ 1
      obtain ⟨x2, hx2e, hb2⟩ := rd_nat HI.out.by_ 2
      obtain ⟨x3, hx3e, hb3⟩ := rd_nat HI.out.by_ 3
      have hlen := HI.out.row.1
      have hx0e := HX0.out
      have hlead := valid_lead t HI.out.by_ (by omega) (show 128 ≤ rd t ((0 : Nat) : Int) by rw [hx0e]; omega)
      rw [show rd t 0 = (x0 : Int) from hx0e, show rd t 1 = (x1 : Int) from hx1e, show rd t 2 = (x2 : Int) from hx2e, show rd t 3 = (x3 : Int) from hx3e, hlen, HI.out.val] at hlead
      simp only [Int.toNat_natCast] at hlead
      have hc0 := hTr.1 x0 hb0
      have hXlt : Lib.firstT x0 < 256 := by rcases Lib.firstT_cases x0 with h | h | h | h | h | h | h | h | h <;> omega
      obtain ⟨X, hX⟩ : ∃ X, Lib.firstT x0 = X := ⟨_, rfl⟩
      rw [hX] at hc0 hXlt hlead
      have h7 : bits .and .u8 (X : Int) 7 = ((X % 8 : Nat) : Int) := and7 ⟨X, hXlt⟩
      have ha0 : wr.cell? ⟨1, X / 16 * 2, none⟩ = some (.int .u8 (Lib.accLo (X / 16))) := by rw [Nat.mul_comm]; exact (hTr.2 (X / 16) (by omega)).1
      have ha1 : wr.cell? ⟨1, X / 16 * 2 + 1, none⟩ = some (.int .u8 (Lib.accHi (X / 16))) := by rw [Nat.mul_comm]; exact (hTr.2 (X / 16) (by omega)).2
      obtain ⟨LO, hLO⟩ : ∃ LO, Lib.accLo (X / 16) = LO := ⟨_, rfl⟩
      obtain ⟨HI', hHI⟩ : ∃ HI', Lib.accHi (X / 16) = HI' := ⟨_, rfl⟩
      rw [hLO] at ha0 hlead
      rw [hHI] at ha1 hlead
      obtain ⟨SZ, hSZ⟩ : ∃ SZ, X % 8 = SZ := ⟨_, rfl⟩
      rw [hSZ] at hlead h7
      have hal := below_alloc (Below.refl wr.heap.size wr)
      have HAL : Aside0 (∀ o, VI w ans (wr.alloc o) (some ad) n t) := ⟨fun o => HI.out.below (hal o)⟩
      have HL := Aside0.mk hlead
      have HX := Aside0.mk (And.intro hx1e (And.intro hx2e hx3e))
      clear hTr hX hLO hHI hlead hx1e hx2e hx3e hlen hx0e HX0 hge hasc hal
      by_cases s2 : SZ = 2
      · as_aux_lemma =>
        subst s2
        have HP : Aside0 ((n < 2 ∨ x1 < LO ∨ HI' < x1 → ans = false) ∧ (¬ (n < 2 ∨ x1 < LO ∨ HI' < x1) → validL (t.drop 2) = validL t)) := by
          have h1 := HL.out
          simp only [Lib.checkN, Nat.reduceEqDiff, if_true, if_false] at h1
          refine ⟨fun h => ?_, fun h => ?_⟩
          · rw [if_pos h] at h1; exact h1
          · rw [if_neg h] at h1; rw [HI.out.val]; exact h1.symm
        clear HL
        go_wp2_with fail
        have HA := Aside0.mk (HAL.out (.cells #[.int .u8 (LO : Int), .int .u8 (HI' : Int)] 56))
        have la0 : (wr.alloc (.cells #[.int .u8 (LO : Int), .int .u8 (HI' : Int)] 56)).cell? ⟨wr.heap.size, 0, none⟩ = some (.int .u8 (LO : Int)) := by simp
        have la1 : (wr.alloc (.cells #[.int .u8 (LO : Int), .int .u8 (HI' : Int)] 56)).cell? ⟨wr.heap.size, 1, none⟩ = some (.int .u8 (HI' : Int)) := by simp
        generalize wr.alloc (.cells #[.int .u8 (LO : Int), .int .u8 (HI' : Int)] 56) = wa at HA la0 la1 ⊢
        clear HAL h7 hSZ hc0 ha0 ha1 hx0
        by_cases q0 : n < 2
        case pos => as_aux_lemma =>
          have HE := Aside0.mk (HP.out.1 (by omega))
          have q0a : decide ((n : Int) < (2 : Int)) = true := decide_eq_true (by omega)
          have q0b : decide (n < 2) = true := decide_eq_true (by omega)
          have q0c : (n < 2) = True := eq_true (by omega)
          have q0d : ((n : Int) < (2 : Int)) = True := eq_true (by omega)
          clear q0
          go_quiet (fail)
          go_wp2
          go_ret
          exact ⟨by rw [HE.out]; rfl, (HA.out.draw _).bel⟩
        have q0a : decide ((n : Int) < (2 : Int)) = false := decide_eq_false (by omega)
        have q0b : decide (n < 2) = false := decide_eq_false (by omega)
        have q0c : (n < 2) = False := eq_false (by omega)
        have q0d : ((n : Int) < (2 : Int)) = False := eq_false (by omega)
        obtain ⟨ad1, ea1, hx1⟩ := HA.out.at0 1 (by omega)
        obtain rfl := Option.some.inj ea1
        rw [show rd t ((1 : Nat) : Int) = (x1 : Int) from HX.out.1] at hx1
        have hy1 : wa.cell? { block := ad.block, off := ad.off + 1 } = some (.int .u8 (x1 : Int)) := hx1
        have w1a : decide ((1 : Int) < (n : Int)) = true := decide_eq_true (by omega)
        have w1b : decide (1 < n) = true := decide_eq_true (by omega)
        have w1c : (1 < n) = True := eq_true (by omega)
        have w1d : ((1 : Int) < (n : Int)) = True := eq_true (by omega)
        by_cases q1 : x1 < LO
        case pos => as_aux_lemma =>
          have HE := Aside0.mk (HP.out.1 (by omega))
          have q1a : decide ((x1 : Int) < (LO : Int)) = true := decide_eq_true (by omega)
          have q1b : decide (x1 < LO) = true := decide_eq_true (by omega)
          have q1c : (x1 < LO) = True := eq_true (by omega)
          have q1d : ((x1 : Int) < (LO : Int)) = True := eq_true (by omega)
          clear q1
          go_quiet (fail)
          go_wp2
          go_ret
          exact ⟨by rw [HE.out]; rfl, (HA.out.draw _).bel⟩
        have q1a : decide ((x1 : Int) < (LO : Int)) = false := decide_eq_false (by omega)
        have q1b : decide (x1 < LO) = false := decide_eq_false (by omega)
        have q1c : (x1 < LO) = False := eq_false (by omega)
        have q1d : ((x1 : Int) < (LO : Int)) = False := eq_false (by omega)
        by_cases q2 : HI' < x1
        case pos => as_aux_lemma =>
          have HE := Aside0.mk (HP.out.1 (by omega))
          have q2a : decide ((HI' : Int) < (x1 : Int)) = true := decide_eq_true (by omega)
          have q2b : decide (HI' < x1) = true := decide_eq_true (by omega)
          have q2c : (HI' < x1) = True := eq_true (by omega)
          have q2d : ((HI' : Int) < (x1 : Int)) = True := eq_true (by omega)
          clear q2
          go_quiet (fail)
          go_wp2
          go_ret
          exact ⟨by rw [HE.out]; rfl, (HA.out.draw _).bel⟩
        have q2a : decide ((HI' : Int) < (x1 : Int)) = false := decide_eq_false (by omega)
        have q2b : decide (HI' < x1) = false := decide_eq_false (by omega)
        have q2c : (HI' < x1) = False := eq_false (by omega)
        have q2d : ((HI' : Int) < (x1 : Int)) = False := eq_false (by omega)
        obtain ⟨m2, hm2⟩ : ∃ m2, n - 2 = m2 := ⟨_, rfl⟩
        obtain ⟨A2, hs2, hV2⟩ := HA.out.cut (k := 2) hm2 (by omega) (HP.out.2 (by omega)) 2 rfl
        have HV2 := Aside0.mk hV2
        have hl2 : m2 < n := by omega
        clear hV2 hm2 q0 q1 q2
        go_quiet (fail)
        go_wp2
        go_roundg g'
        case measure => omega
        case rel => exact ⟨A2, m2, _, rfl, by omega, ⟨HV2.out _ (HA.out.draw _)⟩⟩
      by_cases s3 : SZ = 3
      · as_aux_lemma =>
        subst s3
        have HP : Aside0 ((n < 3 ∨ x1 < LO ∨ HI' < x1 ∨ x2 < 128 ∨ 191 < x2 → ans = false) ∧ (¬ (n < 3 ∨ x1 < LO ∨ HI' < x1 ∨ x2 < 128 ∨ 191 < x2) → validL (t.drop 3) = validL t)) := by
          have h1 := HL.out
          simp only [Lib.checkN, Nat.reduceEqDiff, if_true, if_false] at h1
          refine ⟨fun h => ?_, fun h => ?_⟩
          · rw [if_pos h] at h1; exact h1
          · rw [if_neg h] at h1; rw [HI.out.val]; exact h1.symm
        clear HL
        go_wp2_with fail
        have HA := Aside0.mk (HAL.out (.cells #[.int .u8 (LO : Int), .int .u8 (HI' : Int)] 56))
        have la0 : (wr.alloc (.cells #[.int .u8 (LO : Int), .int .u8 (HI' : Int)] 56)).cell? ⟨wr.heap.size, 0, none⟩ = some (.int .u8 (LO : Int)) := by simp
        have la1 : (wr.alloc (.cells #[.int .u8 (LO : Int), .int .u8 (HI' : Int)] 56)).cell? ⟨wr.heap.size, 1, none⟩ = some (.int .u8 (HI' : Int)) := by simp
        generalize wr.alloc (.cells #[.int .u8 (LO : Int), .int .u8 (HI' : Int)] 56) = wa at HA la0 la1 ⊢
        clear HAL h7 hSZ hc0 ha0 ha1 hx0
        by_cases q0 : n < 3
        case pos => as_aux_lemma =>
          have HE := Aside0.mk (HP.out.1 (by omega))
          have q0a : decide ((n : Int) < (3 : Int)) = true := decide_eq_true (by omega)
          have q0b : decide (n < 3) = true := decide_eq_true (by omega)
          have q0c : (n < 3) = True := eq_true (by omega)
          have q0d : ((n : Int) < (3 : Int)) = True := eq_true (by omega)
          clear q0
          go_quiet (fail)
          go_wp2
          go_ret
          exact ⟨by rw [HE.out]; rfl, (HA.out.draw _).bel⟩
        have q0a : decide ((n : Int) < (3 : Int)) = false := decide_eq_false (by omega)
        have q0b : decide (n < 3) = false := decide_eq_false (by omega)
        have q0c : (n < 3) = False := eq_false (by omega)
        have q0d : ((n : Int) < (3 : Int)) = False := eq_false (by omega)
        obtain ⟨ad1, ea1, hx1⟩ := HA.out.at0 1 (by omega)
        obtain rfl := Option.some.inj ea1
        rw [show rd t ((1 : Nat) : Int) = (x1 : Int) from HX.out.1] at hx1
        have hy1 : wa.cell? { block := ad.block, off := ad.off + 1 } = some (.int .u8 (x1 : Int)) := hx1
        have w1a : decide ((1 : Int) < (n : Int)) = true := decide_eq_true (by omega)
        have w1b : decide (1 < n) = true := decide_eq_true (by omega)
        have w1c : (1 < n) = True := eq_true (by omega)
        have w1d : ((1 : Int) < (n : Int)) = True := eq_true (by omega)
        obtain ⟨ad2, ea2, hx2⟩ := HA.out.at0 2 (by omega)
        obtain rfl := Option.some.inj ea2
        rw [show rd t ((2 : Nat) : Int) = (x2 : Int) from HX.out.2.1] at hx2
        have hy2 : wa.cell? { block := ad.block, off := ad.off + 2 } = some (.int .u8 (x2 : Int)) := hx2
        have w2a : decide ((2 : Int) < (n : Int)) = true := decide_eq_true (by omega)
        have w2b : decide (2 < n) = true := decide_eq_true (by omega)
        have w2c : (2 < n) = True := eq_true (by omega)
        have w2d : ((2 : Int) < (n : Int)) = True := eq_true (by omega)
        by_cases q1 : x1 < LO
        case pos => as_aux_lemma =>
          have HE := Aside0.mk (HP.out.1 (by omega))
          have q1a : decide ((x1 : Int) < (LO : Int)) = true := decide_eq_true (by omega)
          have q1b : decide (x1 < LO) = true := decide_eq_true (by omega)
          have q1c : (x1 < LO) = True := eq_true (by omega)
          have q1d : ((x1 : Int) < (LO : Int)) = True := eq_true (by omega)
          clear q1
          go_quiet (fail)
          go_wp2
          go_ret
          exact ⟨by rw [HE.out]; rfl, (HA.out.draw _).bel⟩
        have q1a : decide ((x1 : Int) < (LO : Int)) = false := decide_eq_false (by omega)
        have q1b : decide (x1 < LO) = false := decide_eq_false (by omega)
        have q1c : (x1 < LO) = False := eq_false (by omega)
        have q1d : ((x1 : Int) < (LO : Int)) = False := eq_false (by omega)
        by_cases q2 : HI' < x1
        case pos => as_aux_lemma =>
          have HE := Aside0.mk (HP.out.1 (by omega))
          have q2a : decide ((HI' : Int) < (x1 : Int)) = true := decide_eq_true (by omega)
          have q2b : decide (HI' < x1) = true := decide_eq_true (by omega)
          have q2c : (HI' < x1) = True := eq_true (by omega)
          have q2d : ((HI' : Int) < (x1 : Int)) = True := eq_true (by omega)
          clear q2
          go_quiet (fail)
          go_wp2
          go_ret
          exact ⟨by rw [HE.out]; rfl, (HA.out.draw _).bel⟩
        have q2a : decide ((HI' : Int) < (x1 : Int)) = false := decide_eq_false (by omega)
        have q2b : decide (HI' < x1) = false := decide_eq_false (by omega)
        have q2c : (HI' < x1) = False := eq_false (by omega)
        have q2d : ((HI' : Int) < (x1 : Int)) = False := eq_false (by omega)
        by_cases q3 : x2 < 128
        case pos => as_aux_lemma =>
          have HE := Aside0.mk (HP.out.1 (by omega))
          have q3a : decide ((x2 : Int) < (128 : Int)) = true := decide_eq_true (by omega)
          have q3b : decide (x2 < 128) = true := decide_eq_true (by omega)
          have q3c : (x2 < 128) = True := eq_true (by omega)
          have q3d : ((x2 : Int) < (128 : Int)) = True := eq_true (by omega)
          clear q3
          go_quiet (fail)
          go_wp2
          go_ret
          exact ⟨by rw [HE.out]; rfl, (HA.out.draw _).bel⟩
        have q3a : decide ((x2 : Int) < (128 : Int)) = false := decide_eq_false (by omega)
        have q3b : decide (x2 < 128) = false := decide_eq_false (by omega)
        have q3c : (x2 < 128) = False := eq_false (by omega)
        have q3d : ((x2 : Int) < (128 : Int)) = False := eq_false (by omega)
        by_cases q4 : 191 < x2
        case pos => as_aux_lemma =>
          have HE := Aside0.mk (HP.out.1 (by omega))
          have q4a : decide ((191 : Int) < (x2 : Int)) = true := decide_eq_true (by omega)
          have q4b : decide (191 < x2) = true := decide_eq_true (by omega)
          have q4c : (191 < x2) = True := eq_true (by omega)
          have q4d : ((191 : Int) < (x2 : Int)) = True := eq_true (by omega)
          clear q4
          go_quiet (fail)
          go_wp2
          go_ret
          exact ⟨by rw [HE.out]; rfl, (HA.out.draw _).bel⟩
        have q4a : decide ((191 : Int) < (x2 : Int)) = false := decide_eq_false (by omega)
        have q4b : decide (191 < x2) = false := decide_eq_false (by omega)
        have q4c : (191 < x2) = False := eq_false (by omega)
        have q4d : ((191 : Int) < (x2 : Int)) = False := eq_false (by omega)
        obtain ⟨m2, hm2⟩ : ∃ m2, n - 3 = m2 := ⟨_, rfl⟩
        obtain ⟨A2, hs2, hV2⟩ := HA.out.cut (k := 3) hm2 (by omega) (HP.out.2 (by omega)) 3 rfl
        have HV2 := Aside0.mk hV2
        have hl2 : m2 < n := by omega
        clear hV2 hm2 q0 q1 q2 q3 q4
        go_quiet (fail)
        go_wp2
        go_roundg g'
        case measure => omega
        case rel => exact ⟨A2, m2, _, rfl, by omega, ⟨HV2.out _ (HA.out.draw _)⟩⟩
      by_cases s4 : SZ = 4
      · as_aux_lemma =>
        subst s4
        have HP : Aside0 ((n < 4 ∨ x1 < LO ∨ HI' < x1 ∨ x2 < 128 ∨ 191 < x2 ∨ x3 < 128 ∨ 191 < x3 → ans = false) ∧ (¬ (n < 4 ∨ x1 < LO ∨ HI' < x1 ∨ x2 < 128 ∨ 191 < x2 ∨ x3 < 128 ∨ 191 < x3) → validL (t.drop 4) = validL t)) := by
          have h1 := HL.out
          simp only [Lib.checkN, Nat.reduceEqDiff, if_true, if_false] at h1
          refine ⟨fun h => ?_, fun h => ?_⟩
          · rw [if_pos h] at h1; exact h1
          · rw [if_neg h] at h1; rw [HI.out.val]; exact h1.symm
        clear HL
        go_wp2_with fail
        have HA := Aside0.mk (HAL.out (.cells #[.int .u8 (LO : Int), .int .u8 (HI' : Int)] 56))
        have la0 : (wr.alloc (.cells #[.int .u8 (LO : Int), .int .u8 (HI' : Int)] 56)).cell? ⟨wr.heap.size, 0, none⟩ = some (.int .u8 (LO : Int)) := by simp
        have la1 : (wr.alloc (.cells #[.int .u8 (LO : Int), .int .u8 (HI' : Int)] 56)).cell? ⟨wr.heap.size, 1, none⟩ = some (.int .u8 (HI' : Int)) := by simp
        generalize wr.alloc (.cells #[.int .u8 (LO : Int), .int .u8 (HI' : Int)] 56) = wa at HA la0 la1 ⊢
        clear HAL h7 hSZ hc0 ha0 ha1 hx0
        by_cases q0 : n < 4
        case pos => as_aux_lemma =>
          have HE := Aside0.mk (HP.out.1 (by omega))
          have q0a : decide ((n : Int) < (4 : Int)) = true := decide_eq_true (by omega)
          have q0b : decide (n < 4) = true := decide_eq_true (by omega)
          have q0c : (n < 4) = True := eq_true (by omega)
          have q0d : ((n : Int) < (4 : Int)) = True := eq_true (by omega)
          clear q0
          go_quiet (fail)
          go_wp2
          go_ret
          exact ⟨by rw [HE.out]; rfl, (HA.out.draw _).bel⟩
        have q0a : decide ((n : Int) < (4 : Int)) = false := decide_eq_false (by omega)
        have q0b : decide (n < 4) = false := decide_eq_false (by omega)
        have q0c : (n < 4) = False := eq_false (by omega)
        have q0d : ((n : Int) < (4 : Int)) = False := eq_false (by omega)
        obtain ⟨ad1, ea1, hx1⟩ := HA.out.at0 1 (by omega)
        obtain rfl := Option.some.inj ea1
        rw [show rd t ((1 : Nat) : Int) = (x1 : Int) from HX.out.1] at hx1
        have hy1 : wa.cell? { block := ad.block, off := ad.off + 1 } = some (.int .u8 (x1 : Int)) := hx1
        have w1a : decide ((1 : Int) < (n : Int)) = true := decide_eq_true (by omega)
        have w1b : decide (1 < n) = true := decide_eq_true (by omega)
        have w1c : (1 < n) = True := eq_true (by omega)
        have w1d : ((1 : Int) < (n : Int)) = True := eq_true (by omega)
        obtain ⟨ad2, ea2, hx2⟩ := HA.out.at0 2 (by omega)
        obtain rfl := Option.some.inj ea2
        rw [show rd t ((2 : Nat) : Int) = (x2 : Int) from HX.out.2.1] at hx2
        have hy2 : wa.cell? { block := ad.block, off := ad.off + 2 } = some (.int .u8 (x2 : Int)) := hx2
        have w2a : decide ((2 : Int) < (n : Int)) = true := decide_eq_true (by omega)
        have w2b : decide (2 < n) = true := decide_eq_true (by omega)
        have w2c : (2 < n) = True := eq_true (by omega)
        have w2d : ((2 : Int) < (n : Int)) = True := eq_true (by omega)
        obtain ⟨ad3, ea3, hx3⟩ := HA.out.at0 3 (by omega)
        obtain rfl := Option.some.inj ea3
        rw [show rd t ((3 : Nat) : Int) = (x3 : Int) from HX.out.2.2] at hx3
        have hy3 : wa.cell? { block := ad.block, off := ad.off + 3 } = some (.int .u8 (x3 : Int)) := hx3
        have w3a : decide ((3 : Int) < (n : Int)) = true := decide_eq_true (by omega)
        have w3b : decide (3 < n) = true := decide_eq_true (by omega)
        have w3c : (3 < n) = True := eq_true (by omega)
        have w3d : ((3 : Int) < (n : Int)) = True := eq_true (by omega)
        by_cases q1 : x1 < LO
        case pos => as_aux_lemma =>
          have HE := Aside0.mk (HP.out.1 (by omega))
          have q1a : decide ((x1 : Int) < (LO : Int)) = true := decide_eq_true (by omega)
          have q1b : decide (x1 < LO) = true := decide_eq_true (by omega)
          have q1c : (x1 < LO) = True := eq_true (by omega)
          have q1d : ((x1 : Int) < (LO : Int)) = True := eq_true (by omega)
          clear q1
          go_quiet (fail)
          go_wp2
          go_ret
          exact ⟨by rw [HE.out]; rfl, (HA.out.draw _).bel⟩
        have q1a : decide ((x1 : Int) < (LO : Int)) = false := decide_eq_false (by omega)
        have q1b : decide (x1 < LO) = false := decide_eq_false (by omega)
        have q1c : (x1 < LO) = False := eq_false (by omega)
        have q1d : ((x1 : Int) < (LO : Int)) = False := eq_false (by omega)
        by_cases q2 : HI' < x1
        case pos => as_aux_lemma =>
          have HE := Aside0.mk (HP.out.1 (by omega))
          have q2a : decide ((HI' : Int) < (x1 : Int)) = true := decide_eq_true (by omega)
          have q2b : decide (HI' < x1) = true := decide_eq_true (by omega)
          have q2c : (HI' < x1) = True := eq_true (by omega)
          have q2d : ((HI' : Int) < (x1 : Int)) = True := eq_true (by omega)
          clear q2
          go_quiet (fail)
          go_wp2
          go_ret
          exact ⟨by rw [HE.out]; rfl, (HA.out.draw _).bel⟩
        have q2a : decide ((HI' : Int) < (x1 : Int)) = false := decide_eq_false (by omega)
        have q2b : decide (HI' < x1) = false := decide_eq_false (by omega)
        have q2c : (HI' < x1) = False := eq_false (by omega)
        have q2d : ((HI' : Int) < (x1 : Int)) = False := eq_false (by omega)
        by_cases q3 : x2 < 128
        case pos => as_aux_lemma =>
          have HE := Aside0.mk (HP.out.1 (by omega))
          have q3a : decide ((x2 : Int) < (128 : Int)) = true := decide_eq_true (by omega)
          have q3b : decide (x2 < 128) = true := decide_eq_true (by omega)
          have q3c : (x2 < 128) = True := eq_true (by omega)
          have q3d : ((x2 : Int) < (128 : Int)) = True := eq_true (by omega)
          clear q3
          go_quiet (fail)
          go_wp2
          go_ret
          exact ⟨by rw [HE.out]; rfl, (HA.out.draw _).bel⟩
        have q3a : decide ((x2 : Int) < (128 : Int)) = false := decide_eq_false (by omega)
        have q3b : decide (x2 < 128) = false := decide_eq_false (by omega)
        have q3c : (x2 < 128) = False := eq_false (by omega)
        have q3d : ((x2 : Int) < (128 : Int)) = False := eq_false (by omega)
        by_cases q4 : 191 < x2
        case pos => as_aux_lemma =>
          have HE := Aside0.mk (HP.out.1 (by omega))
          have q4a : decide ((191 : Int) < (x2 : Int)) = true := decide_eq_true (by omega)
          have q4b : decide (191 < x2) = true := decide_eq_true (by omega)
          have q4c : (191 < x2) = True := eq_true (by omega)
          have q4d : ((191 : Int) < (x2 : Int)) = True := eq_true (by omega)
          clear q4
          go_quiet (fail)
          go_wp2
          go_ret
          exact ⟨by rw [HE.out]; rfl, (HA.out.draw _).bel⟩
        have q4a : decide ((191 : Int) < (x2 : Int)) = false := decide_eq_false (by omega)
        have q4b : decide (191 < x2) = false := decide_eq_false (by omega)
        have q4c : (191 < x2) = False := eq_false (by omega)
        have q4d : ((191 : Int) < (x2 : Int)) = False := eq_false (by omega)
        by_cases q5 : x3 < 128
        case pos => as_aux_lemma =>
          have HE := Aside0.mk (HP.out.1 (by omega))
          have q5a : decide ((x3 : Int) < (128 : Int)) = true := decide_eq_true (by omega)
          have q5b : decide (x3 < 128) = true := decide_eq_true (by omega)
          have q5c : (x3 < 128) = True := eq_true (by omega)
          have q5d : ((x3 : Int) < (128 : Int)) = True := eq_true (by omega)
          clear q5
          go_quiet (fail)
          go_wp2
          go_ret
          exact ⟨by rw [HE.out]; rfl, (HA.out.draw _).bel⟩
        have q5a : decide ((x3 : Int) < (128 : Int)) = false := decide_eq_false (by omega)
        have q5b : decide (x3 < 128) = false := decide_eq_false (by omega)
        have q5c : (x3 < 128) = False := eq_false (by omega)
        have q5d : ((x3 : Int) < (128 : Int)) = False := eq_false (by omega)
        by_cases q6 : 191 < x3
        case pos => as_aux_lemma =>
          have HE := Aside0.mk (HP.out.1 (by omega))
          have q6a : decide ((191 : Int) < (x3 : Int)) = true := decide_eq_true (by omega)
          have q6b : decide (191 < x3) = true := decide_eq_true (by omega)
          have q6c : (191 < x3) = True := eq_true (by omega)
          have q6d : ((191 : Int) < (x3 : Int)) = True := eq_true (by omega)
          clear q6
          go_quiet (fail)
          go_wp2
          go_ret
          exact ⟨by rw [HE.out]; rfl, (HA.out.draw _).bel⟩
        have q6a : decide ((191 : Int) < (x3 : Int)) = false := decide_eq_false (by omega)
        have q6b : decide (191 < x3) = false := decide_eq_false (by omega)
        have q6c : (191 < x3) = False := eq_false (by omega)
        have q6d : ((191 : Int) < (x3 : Int)) = False := eq_false (by omega)
        obtain ⟨m2, hm2⟩ : ∃ m2, n - 4 = m2 := ⟨_, rfl⟩
        obtain ⟨A2, hs2, hV2⟩ := HA.out.cut (k := 4) hm2 (by omega) (HP.out.2 (by omega)) 4 rfl
        have HV2 := Aside0.mk hV2
        have hl2 : m2 < n := by omega
        clear hV2 hm2 q0 q1 q2 q3 q4 q5 q6
        go_quiet (fail)
        go_wp2
        go_roundg g'
        case measure => omega
        case rel => exact ⟨A2, m2, _, rfl, by omega, ⟨HV2.out _ (HA.out.draw _)⟩⟩
      have HE : Aside0 (ans = false) := by
        have h1 := HL.out
        simp only [Lib.checkN, s2, s3, s4, if_false] at h1
        exact ⟨h1⟩
      have e2 : ((SZ : Int) == 2) = false := by simp; omega
      have f2 : ¬ ((X : Int) % 8 = 2) := by omega
      have g2 : (((X : Int) % 8) == 2) = false := by simp; omega
      have e3 : ((SZ : Int) == 3) = false := by simp; omega
      have f3 : ¬ ((X : Int) % 8 = 3) := by omega
      have g3 : (((X : Int) % 8) == 3) = false := by simp; omega
      have e4 : ((SZ : Int) == 4) = false := by simp; omega
      have f4 : ¬ ((X : Int) % 8 = 4) := by omega
      have g4 : (((X : Int) % 8) == 4) = false := by simp; omega
      clear s2 s3 s4 HL
      go_wp2
      all_goals (go_ret; exact ⟨by rw [HE.out]; rfl, (HAL.out _).bel⟩)
end Go.Proofs.YtoihcdahloddkaaDoor.P
