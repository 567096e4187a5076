-- Written by a program of this session (wip/tools/mk.sh) for this claim: it runs the kit's print with contracts of our own. Lean checks it.
import Derived.Test.YtcjepgofcojeoaaPx0
import Derived.Test.YtcjepgofcojeoaaZStr
import Derived.Test.YtcjepgofcojeoaaZTx0
import Derived.Test.YtcjepgofcojeoaaPx5
namespace Go.Proofs.Ytcjepgofcojeoaa.P
open Go.RowKit Go.Proofs.YtcjepgofcojeoaaW.PrintWords Go.Proofs.YtcjepgofcojeoaaW.PrintLast Go.Proofs.YtcjepgofcojeoaaW.PrintMore
attribute [-simp] Int.tmod_tmod_of_dvd
attribute [local go_sem] max2_int min2_int max_two min_two max_three min_three max_four min_four   -- for this text's walks alone
set_option linter.unusedVariables false
set_option linter.unusedSimpArgs false

/-! ### addr_Text: function 9 -/
/-! addresses as a text -/
def sepP (p : Option Int) (q : Int) : Bool := match p with | none => false | some x => (x != 1) && (q != 2)
def tx_l (k : Nat) : Option Int → List S27 → ByteArray → Option ByteArray
  | _, [], acc => some acc
  | p, a :: t, acc => (addr_Address_text.f k a.f0 a.f1 a.f2 a.f3).bind fun s => if acc.size + 2 + s.size ≤ 140737488355328 then tx_l k (some a.f0) t ((if sepP p a.f0 = true then acc ++ (⟨#[44, 32]⟩ : ByteArray) else acc) ++ s) else none
def addr_Text.f (k : Nat) (l0 : List S27) : Option ByteArray := if l0.length ≤ 1000000 then tx_l k none l0 ⟨#[]⟩ else none
theorem tx_mono (k : Nat) : ∀ (l : List S27) (p : Option Int) (acc : ByteArray), LeO (tx_l k p l acc) (tx_l (k + 1) p l acc)
  | [], _, _ => LeO.refl _
  | a :: t, p, acc => by
    rw [tx_l, tx_l]
    refine LeO.bind (addr_Address_text.mono _ _ _ _ _) (fun s => ?_)
    split
    · exact tx_mono k t _ _
    · exact LeO.none _
theorem addr_Text.mono : ∀ a0 k, LeO (addr_Text.f k a0) (addr_Text.f (k + 1) a0) := by
  intro a0 k
  unfold addr_Text.f
  split
  · exact tx_mono k a0 _ _
  · exact LeO.none _
def prevK (l : List S27) (n : Nat) : Option Int := if n = 0 then none else some (rd_T27 l ((n : Int) - 1)).f0
theorem rdT27_at (l : List S27) (n : Nat) (h : n < l.length) : l.drop n = rd_T27 l (n : Int) :: l.drop (n + 1) := by
  rw [List.drop_eq_getElem_cons h]
  congr 1
  unfold rd_T27
  rw [Int.toNat_natCast, List.getD_eq_getElem?_getD, List.getElem?_eq_getElem h]
  rfl
theorem ba_app (a b : ByteArray) : (a ++ b).data.toList = a.data.toList ++ b.data.toList := by rw [ByteArray.data_append, Array.toList_append]
theorem kept27 {b g : Nat} {w w' : World} {cs : Array Value} (h : Lib.OthersKept 5 (some b) w w') (hg : w.heap[g]? = some (.cells cs 27 (0, 0))) (hne : g ≠ b) : w'.heap[g]? = some (.cells cs 27 (0, 0)) :=
  h g _ hg (fun e => hne (Option.some.inj e)) (fun c fz e => by cases e)
set_option maxHeartbeats 4000000 in
set_option maxRecDepth 100000 in
theorem addr_Text.calls (k : Nat) (A0 : Option Addr) (c0 : Nat) (l0 : List S27) (r : ByteArray) (w : World) (hr0 : Kd.C k27 w A0 l0.length l0) (hc0 : l0.length ≤ c0) (h : addr_Text.f k l0 = some r) :
    Calls Try.prog 9 #[.slice A0 l0.length c0] w fun e w' => e = .returned (.string r) ∧ Below w.heap.size w w' := by
  have hu27 := Try.underlying27
  unfold addr_Text.f at h
  by_cases hl : l0.length ≤ 1000000
  case neg => rw [if_neg hl] at h; exact absurd h (by simp)
  rw [if_pos hl] at h
  have H' := Aside0.mk h
  have HC := Aside0.mk hr0
  clear h hr0
  go_enter Try.func9, Try.ntmps9
  go_wp2
  go_loopw [8] (fun i wr => ∃ (x : Int) (acc : ByteArray), i = .int .i64 x ∧ Aside0 (0 ≤ x ∧ x ≤ (l0.length : Int)) ∧ Aside0 (tx_l k (prevK l0 x.toNat) (l0.drop x.toNat) acc = some r) ∧ Aside0 (TB w.heap.size w.heap.size acc.data.toList wr) ∧ Aside0 (Below w.heap.size w wr)) (fun i _ => l0.length - (intOf i).toNat)
  case atStart => exact ⟨0, ⟨#[]⟩, rfl, ⟨by omega⟩, H', ⟨tb_new w⟩, ⟨below_alloc (Below.refl _ _) _⟩⟩
  case round =>
    clear H'
    obtain ⟨x, acc, rfl, hn, HA, HT, HB⟩ := hrel
    by_cases hlt : x < (l0.length : Int)
    · have b0 : decide (x < (l0.length : Int)) = true := decide_eq_true hlt
      have H := HA.out
      have hx := hn.out
      rw [rdT27_at l0 x.toNat (by omega), tx_l, Int.toNat_of_nonneg hx.1] at H
      obtain ⟨s, hs, H⟩ := Option.bind_eq_some_iff.mp H
      by_cases hz : acc.size + 2 + s.size ≤ 140737488355328
      case neg => rw [if_neg hz] at H; exact absurd H (by simp)
      rw [if_pos hz] at H
      have HZ := Aside0.mk hz
      have HS := Aside0.mk hs
      clear hz hs HA
      obtain ⟨ad, e, hx0, hx1, hx2, hx3⟩ := at_T27 (Kd.C_below HC.out HB.out) x hx.1 hlt
      subst e
      have hprev : prevK l0 (x + 1).toNat = some (rd_T27 l0 x).f0 := by
        unfold prevK
        rw [if_neg (by omega), show (((x + 1).toNat : Nat) : Int) - 1 = x by omega]
      obtain ⟨a, ha⟩ : ∃ a, rd_T27 l0 x = a := ⟨_, rfl⟩
      rw [ha] at hx0 hx1 hx2 hx3 HS H hprev
      have hdr : x.toNat + 1 = (x + 1).toNat := by omega
      rw [← hprev, hdr] at H
      have p1 : (0 ≤ x) = True := eq_true hx.1
      have p2 : (x < (l0.length : Int)) = True := eq_true hlt
      by_cases h0 : x = 0
      · have g0 : decide (x > 0) = false := decide_eq_false (by omega)
        have g1 : decide (0 < x) = false := decide_eq_false (by omega)
        have hsp : sepP (prevK l0 x.toNat) a.f0 = false := by rw [h0]; rfl
        rw [hsp, if_neg (by decide)] at H
        clear h0 hsp
        go_wp2_with (first | (go_at_call 14; refine (addr_Address_text.calls k a.f0 a.f1 a.f2 a.f3 s _ HS.out).mono ?_; rintro e w2 ⟨rfl, b2⟩; have HT2 := Aside0.mk (TB.below (HT.out.below (below_alloc (Below.refl _ _) _)) b2); have HB2 := Aside0.mk ((below_alloc HB.out (.cells #[.int .i64 a.f0, .string a.f1, .string a.f2, .string a.f3] 27)).trans (b2.mono (below_alloc HB.out (.cells #[.int .i64 a.f0, .string a.f1, .string a.f2, .string a.f3] 27)).size)); clear b2) | (go_at_call 13; with_reducible refine (tb_write w.heap.size w.heap.size _ s _ HT2.out (by have := HZ.out; have e : ∀ z : ByteArray, z.data.toList.length = z.size := (fun z => Array.length_toList); simp only [List.length_append, e]; omega) HB2.out.size).mono ?_; rintro e w3 ⟨rfl, t3, b3, k3⟩; have HT3 := Aside0.mk t3; have HB3 := Aside0.mk (HB2.out.trans b3); clear t3 b3 k3))
        go_roundw
        all_goals first | (simp [intOf]; omega; done) | exact ⟨x + 1, _, by go_num, ⟨by have := hn.out; omega⟩, ⟨H⟩, ⟨by simp only [ba_app]; exact HT3.out⟩, HB3⟩
      · have g0 : decide (x > 0) = true := decide_eq_true (by omega)
        have g1 : decide (0 < x) = true := decide_eq_true (by omega)
        have p3 : (0 ≤ x - 1) = True := eq_true (by omega)
        have p5 : (1 ≤ x) = True := eq_true (by omega)
        have p4 : (x - 1 < (l0.length : Int)) = True := eq_true (by omega)
        obtain ⟨ad2, e2, hy0, hy1, hy2, hy3⟩ := at_T27 (Kd.C_below HC.out (below_alloc HB.out (.cells #[.int .i64 a.f0, .string a.f1, .string a.f2, .string a.f3] 27))) (x - 1) (by omega) (by omega)
        cases e2
        have hpv : prevK l0 x.toNat = some (rd_T27 l0 (x - 1)).f0 := by
          unfold prevK
          rw [if_neg (by omega), Int.toNat_of_nonneg hx.1]
        rw [hpv] at H
        clear hy1 hy2 hy3 hpv
        rw [show (x - 1).toNat = x.toNat - 1 by omega] at hy0
        generalize (rd_T27 l0 (x - 1)).f0 = pk at hy0 H
        by_cases hpk : pk = 1
        · have q0 : (pk != 1) = false := by rw [bne_eq_false_iff_eq]; exact hpk
          have q1 : (pk == 1) = true := by rw [beq_iff_eq]; exact hpk
          have hsp : sepP (some pk) a.f0 = false := by unfold sepP; simp [hpk]
          rw [hsp, if_neg (by decide)] at H
          clear h0 hsp hpk
          go_wp2_with (first | (go_at_call 14; refine (addr_Address_text.calls k a.f0 a.f1 a.f2 a.f3 s _ HS.out).mono ?_; rintro e w2 ⟨rfl, b2⟩; have HT2 := Aside0.mk (TB.below (HT.out.below (below_alloc (Below.refl _ _) _)) b2); have HB2 := Aside0.mk ((below_alloc HB.out (.cells #[.int .i64 a.f0, .string a.f1, .string a.f2, .string a.f3] 27)).trans (b2.mono (below_alloc HB.out (.cells #[.int .i64 a.f0, .string a.f1, .string a.f2, .string a.f3] 27)).size)); clear b2) | (go_at_call 13; with_reducible refine (tb_write w.heap.size w.heap.size _ s _ HT2.out (by have := HZ.out; have e : ∀ z : ByteArray, z.data.toList.length = z.size := (fun z => Array.length_toList); simp only [List.length_append, e]; omega) HB2.out.size).mono ?_; rintro e w3 ⟨rfl, t3, b3, k3⟩; have HT3 := Aside0.mk t3; have HB3 := Aside0.mk (HB2.out.trans b3); clear t3 b3 k3))
          go_roundw
          all_goals first | (simp [intOf]; omega; done) | exact ⟨x + 1, _, by go_num, ⟨by have := hn.out; omega⟩, ⟨H⟩, ⟨by simp only [ba_app]; exact HT3.out⟩, HB3⟩
        · have q0 : (pk != 1) = true := by rw [bne_iff_ne]; exact hpk
          have q1 : (pk == 1) = false := by rw [beq_eq_false_iff_ne]; exact hpk
          by_cases hq : a.f0 = 2
          · have q2 : (a.f0 != 2) = false := by rw [bne_eq_false_iff_eq]; exact hq
            have q3 : (a.f0 == 2) = true := by rw [beq_iff_eq]; exact hq
            have hsp : sepP (some pk) a.f0 = false := by unfold sepP; simp [hq]
            rw [hsp, if_neg (by decide)] at H
            clear h0 hsp hpk hq
            go_wp2_with (first | (go_at_call 14; refine (addr_Address_text.calls k a.f0 a.f1 a.f2 a.f3 s _ HS.out).mono ?_; rintro e w2 ⟨rfl, b2⟩; have HT2 := Aside0.mk (TB.below (HT.out.below (below_alloc (Below.refl _ _) _)) b2); have HB2 := Aside0.mk ((below_alloc HB.out (.cells #[.int .i64 a.f0, .string a.f1, .string a.f2, .string a.f3] 27)).trans (b2.mono (below_alloc HB.out (.cells #[.int .i64 a.f0, .string a.f1, .string a.f2, .string a.f3] 27)).size)); clear b2) | (go_at_call 13; with_reducible refine (tb_write w.heap.size w.heap.size _ s _ HT2.out (by have := HZ.out; have e : ∀ z : ByteArray, z.data.toList.length = z.size := (fun z => Array.length_toList); simp only [List.length_append, e]; omega) HB2.out.size).mono ?_; rintro e w3 ⟨rfl, t3, b3, k3⟩; have HT3 := Aside0.mk t3; have HB3 := Aside0.mk (HB2.out.trans b3); clear t3 b3 k3))
            go_roundw
            all_goals first | (simp [intOf]; omega; done) | exact ⟨x + 1, _, by go_num, ⟨by have := hn.out; omega⟩, ⟨H⟩, ⟨by simp only [ba_app]; exact HT3.out⟩, HB3⟩
          · have q2 : (a.f0 != 2) = true := by rw [bne_iff_ne]; exact hq
            have q3 : (a.f0 == 2) = false := by rw [beq_eq_false_iff_ne]; exact hq
            have hsp : sepP (some pk) a.f0 = true := by unfold sepP; simp [hq, hpk]
            rw [hsp, if_pos rfl] at H
            clear h0 hsp hpk hq
            go_wp2_with (first | (go_at_call 13; with_reducible refine (tb_write w.heap.size w.heap.size _ (⟨#[44, 32]⟩ : ByteArray) _ (HT.out.below (below_alloc (Below.refl _ _) _)) (by have := HZ.out; have e : ∀ z : ByteArray, z.data.toList.length = z.size := (fun z => Array.length_toList); simp only [List.length_append, e]; have e2 : (⟨#[44, 32]⟩ : ByteArray).size = 2 := rfl; omega) (below_alloc HB.out (.cells #[.int .i64 a.f0, .string a.f1, .string a.f2, .string a.f3] 27)).size).mono ?_; rintro e w1 ⟨rfl, t1, b1, k1⟩; have hg1 := kept27 k1 (heap_alloc_new _ _) (by have := HB.out.size; have := TB.lt HT.out; omega); have z0 := blk_cell hg1 0; have z1 := blk_cell hg1 1; have z2 := blk_cell hg1 2; have z3 := blk_cell hg1 3; simp only [List.getElem?_toArray, List.getElem?_cons_zero, List.getElem?_cons_succ] at z0 z1 z2 z3; have HT1 := Aside0.mk t1; have HB1 := Aside0.mk ((below_alloc HB.out (.cells #[.int .i64 a.f0, .string a.f1, .string a.f2, .string a.f3] 27)).trans b1); clear t1 b1 k1 hg1) | (go_at_call 14; refine (addr_Address_text.calls k a.f0 a.f1 a.f2 a.f3 s _ HS.out).mono ?_; rintro e w2 ⟨rfl, b2⟩; have HT2 := Aside0.mk (TB.below HT1.out b2); have HB2 := Aside0.mk (HB1.out.trans (b2.mono HB1.out.size)); clear b2) | (go_at_call 13; with_reducible refine (tb_write w.heap.size w.heap.size _ s _ HT2.out (by have := HZ.out; have e : ∀ z : ByteArray, z.data.toList.length = z.size := (fun z => Array.length_toList); simp only [List.length_append, e]; have e2 : (⟨#[44, 32]⟩ : ByteArray).size = 2 := rfl; omega) HB2.out.size).mono ?_; rintro e w3 ⟨rfl, t3, b3, k3⟩; have HT3 := Aside0.mk t3; have HB3 := Aside0.mk (HB2.out.trans b3); clear t3 b3 k3))
            go_roundw
            all_goals first | (simp [intOf]; omega; done) | exact ⟨x + 1, _, by go_num, ⟨by have := hn.out; omega⟩, ⟨H⟩, ⟨by simp only [ba_app]; exact HT3.out⟩, HB3⟩
    · have b0 : decide (x < (l0.length : Int)) = false := decide_eq_false hlt
      have hx : x = (l0.length : Int) := by have := hn.out; omega
      have H := HA.out
      rw [hx, Int.toNat_natCast, List.drop_length, tx_l] at H
      obtain rfl := Option.some.inj H
      clear hx H
      go_wp2_with (go_at_call 15; refine (tb_string w.heap.size w.heap.size _ _ HT.out HB.out.size).mono ?_; rintro e w5 ⟨rfl, b5⟩; have HB5 := Aside0.mk (HB.out.trans b5); clear b5)
      go_ret
      exact ⟨by first | rfl | (simp; done), HB5.out⟩

/-! ### letterboxref07_Quoted: function 16 -/
def letterboxref07_Quoted.l0 : Nat → ByteArray → ByteArray → Int → Option (ByteArray)
  | 0, _, _, _ => none
  | k + 1, x0, x3, x4 => if x4 < (x0.size : Int) then (if 0 ≤ x4 then (if (bt x0 x4) = 34 then (if x3.size + 1 ≤ 9223372036854775807 then (if x4 ≤ (wrap64 (x4 + 1)) then (if (wrap64 (x4 + 1)) ≤ (x0.size : Int) then (if (x3 ++ (⟨#[92]⟩ : ByteArray)).size + (x0.extract (x4 : Int).toNat ((wrap64 (x4 + 1)) : Int).toNat).size ≤ 9223372036854775807 then (letterboxref07_Quoted.l0 k x0 ((x3 ++ (⟨#[92]⟩ : ByteArray)) ++ (x0.extract (x4 : Int).toNat ((wrap64 (x4 + 1)) : Int).toNat)) (wrap64 (x4 + 1))) else (none)) else (none)) else (none)) else (none)) else (if (bt x0 x4) = 92 then (if x3.size + 1 ≤ 9223372036854775807 then (if x4 ≤ (wrap64 (x4 + 1)) then (if (wrap64 (x4 + 1)) ≤ (x0.size : Int) then (if (x3 ++ (⟨#[92]⟩ : ByteArray)).size + (x0.extract (x4 : Int).toNat ((wrap64 (x4 + 1)) : Int).toNat).size ≤ 9223372036854775807 then (letterboxref07_Quoted.l0 k x0 ((x3 ++ (⟨#[92]⟩ : ByteArray)) ++ (x0.extract (x4 : Int).toNat ((wrap64 (x4 + 1)) : Int).toNat)) (wrap64 (x4 + 1))) else (none)) else (none)) else (none)) else (none)) else (if x4 ≤ (wrap64 (x4 + 1)) then (if (wrap64 (x4 + 1)) ≤ (x0.size : Int) then (if x3.size + (x0.extract (x4 : Int).toNat ((wrap64 (x4 + 1)) : Int).toNat).size ≤ 9223372036854775807 then (letterboxref07_Quoted.l0 k x0 (x3 ++ (x0.extract (x4 : Int).toNat ((wrap64 (x4 + 1)) : Int).toNat)) (wrap64 (x4 + 1))) else (none)) else (none)) else (none)))) else (none)) else (if x3.size + 1 ≤ 9223372036854775807 then (some (x3 ++ (⟨#[34]⟩ : ByteArray))) else (none))
def letterboxref07_Quoted.f (k : Nat) (a0 : ByteArray) : Option (ByteArray) := letterboxref07_Quoted.l0 k a0 (⟨#[34]⟩ : ByteArray) 0
theorem letterboxref07_Quoted.mono_l : ∀ k, (∀ y0 y1 y2, LeO (letterboxref07_Quoted.l0 k y0 y1 y2) (letterboxref07_Quoted.l0 (k + 1) y0 y1 y2))
  | 0 => fun _ _ _ r h => by simp [letterboxref07_Quoted.l0] at h
  | k + 1 => by
    have ih0 := letterboxref07_Quoted.mono_l k
    · intro y0 y1 y2
      unfold letterboxref07_Quoted.l0
      repeat' first
      | (with_reducible exact ih0 _ _ _)
      | (with_reducible exact LeO.refl _)
      | (with_reducible exact LeO.none _)
      | (with_reducible refine LeO.ite ?_ ?_)
      | (with_reducible refine LeO.bind ?_ (fun _ => ?_))
      | exact ih0 _ _ _
      | exact LeO.none _
      | refine LeO.ite ?_ ?_
      | refine LeO.bind ?_ (fun _ => ?_)
theorem letterboxref07_Quoted.mono : ∀ a0 k, LeO (letterboxref07_Quoted.f k a0) (letterboxref07_Quoted.f (k + 1) a0) := by
  intro a0 k
  have ih0 := letterboxref07_Quoted.mono_l k
  unfold letterboxref07_Quoted.f
  repeat' first
      | (with_reducible exact ih0 _ _ _)
      | (with_reducible exact LeO.refl _)
      | (with_reducible exact LeO.none _)
      | (with_reducible refine LeO.ite ?_ ?_)
      | (with_reducible refine LeO.bind ?_ (fun _ => ?_))
      | exact ih0 _ _ _
      | exact LeO.none _
      | refine LeO.ite ?_ ?_
      | refine LeO.bind ?_ (fun _ => ?_)
set_option maxHeartbeats 8000000 in
set_option maxRecDepth 100000 in
theorem letterboxref07_Quoted.calls (k : Nat) (a0 : ByteArray) (r : ByteArray) (w : World) (h : letterboxref07_Quoted.f k a0 = some r) :
    Calls Try.prog 16 #[.string a0] w fun e w' => e = .returned (.string r) ∧ Drawn0 w w' := by
  have H : (letterboxref07_Quoted.l0 k a0 (⟨#[34]⟩ : ByteArray) 0) = some r := h
  clear h
  have H' := Aside0.mk H
  clear H
  go_enter Try.func16, Try.ntmps16
  go_wp2
  go_loopg [3, 4] k (fun kq v3 v4 w' => ∃ (x3_1 : ByteArray) (x4_1 : Int), v3 = .string x3_1 ∧ v4 = .int .i64 x4_1 ∧ Aside0 (letterboxref07_Quoted.l0 kq a0 x3_1 x4_1 = some r) ∧ Aside0 (kq ≤ k) ∧ Drawn0 w w')
  case atStart => exact ⟨((⟨#[34]⟩ : ByteArray)), (0), (by first | rfl | (simp; done) | (simp [*]; done)), (by first | rfl | (simp; done) | (simp [*]; done)), H', ⟨Nat.le_refl _⟩, by repeat (first | exact Drawn0.refl _ | apply Drawn0.step)⟩
  case round =>
    clear H'
    try clear c1
    obtain ⟨x3_1, x4_1, rfl, rfl, HA, HK1, ⟨m1, rfl⟩⟩ := hrel
    cases gk with
    | zero => exact absurd HA.out (by simp [letterboxref07_Quoted.l0])
    | succ k1 =>
      have H := HA.out
      clear HA
      simp only [letterboxref07_Quoted.l0] at H
      by_cases c2 : x4_1 < (a0.size : Int)
      · rw [if_pos c2] at H
        have c2b0 : decide (x4_1 < (a0.size : Int)) = true := decide_eq_true c2
        clear c2
        by_cases c3 : 0 ≤ x4_1
        · rw [if_pos c3] at H
          have c3b0 : decide (0 ≤ x4_1) = true := decide_eq_true c3
          clear c3
          by_cases c5 : (bt a0 x4_1) = 34
          · rw [if_pos c5] at H
            have c5b0 : ((bt a0 x4_1) == 34) = true := beq_iff_eq.mpr c5
            have c5b1 : ((bt a0 x4_1) != 34) = false := bne_eq_false_iff_eq.mpr c5
            clear c5
            by_cases c6 : x3_1.size + 1 ≤ 9223372036854775807
            · rw [if_pos c6] at H
              have c6b0 := eq_true c6
              have c6b1 : decide (x3_1.size + 1 ≤ 9223372036854775807) = true := decide_eq_true c6
              try have c6b2 : (9223372036854775807 < x3_1.size + 1) = False := eq_false (Nat.not_lt.2 c6)
              have c7b0 := eq_true (of_decide_eq_true (by first | (with_reducible assumption) | assumption) : 0 ≤ x4_1)
              by_cases c8 : x4_1 ≤ (wrap64 (x4_1 + 1))
              · rw [if_pos c8] at H
                have c8b0 := eq_true c8
                have c8b1 : decide (x4_1 ≤ (wrap64 (x4_1 + 1))) = true := decide_eq_true c8
                by_cases c9 : (wrap64 (x4_1 + 1)) ≤ (a0.size : Int)
                · rw [if_pos c9] at H
                  have c9b0 := eq_true c9
                  have c9b1 : decide ((wrap64 (x4_1 + 1)) ≤ (a0.size : Int)) = true := decide_eq_true c9
                  by_cases c10 : (x3_1 ++ (⟨#[92]⟩ : ByteArray)).size + (a0.extract (x4_1 : Int).toNat ((wrap64 (x4_1 + 1)) : Int).toNat).size ≤ 9223372036854775807
                  · rw [if_pos c10] at H
                    have c10b0 := eq_true c10
                    have c10b1 : decide ((x3_1 ++ (⟨#[92]⟩ : ByteArray)).size + (a0.extract (x4_1 : Int).toNat ((wrap64 (x4_1 + 1)) : Int).toNat).size ≤ 9223372036854775807) = true := decide_eq_true c10
                    try have c10b2 : (9223372036854775807 < (x3_1 ++ (⟨#[92]⟩ : ByteArray)).size + (a0.extract (x4_1 : Int).toNat ((wrap64 (x4_1 + 1)) : Int).toNat).size) = False := eq_false (Nat.not_lt.2 c10)
                    (try (have c10h := c10; simp only [ByteArray.size_append, ByteArray.size_extract, Int.toNat_natCast, Nat.sub_zero, Nat.min_self, ByteArray.extract_zero_size, show (⟨#[92]⟩ : ByteArray).size = 1 from rfl] at c10h; have c10b7 := eq_false (Nat.not_lt.2 c10h); clear c10h))
                    try have c10b5 : (9223372036854775807 < (x3_1.size + 1) + (((wrap64 (x4_1 + 1)) : Int).toNat - (x4_1 : Int).toNat)) = False := eq_false (Nat.not_lt.2 (by have h_ := c10; (try have e0_ : (wrap64 (x4_1 + 1)) ≤ (a0.size : Int) := of_decide_eq_true (by first | (with_reducible assumption) | assumption)); simp only [ByteArray.size_append, ByteArray.size_extract, show (⟨#[92]⟩ : ByteArray).size = 1 from rfl] at h_ ⊢; omega))
                    have H' := Aside0.mk H
                    clear H
                    have p4 : 0 ≤ (x4_1 : Int) := of_decide_eq_true (by first | (with_reducible assumption) | assumption)
                    have q4 : x4_1 < (a0.size : Int) := of_decide_eq_true (by first | (with_reducible assumption) | assumption)
                    have hx4 := bt_at a0 x4_1
                    replace p4 := eq_true p4
                    replace q4 := eq_true q4
                    go_wp2
                    go_roundg k1
                    case measure => have := HK1.out; omega
                    case rel => exact ⟨((x3_1 ++ (⟨#[92]⟩ : ByteArray)) ++ (a0.extract (x4_1 : Int).toNat ((wrap64 (x4_1 + 1)) : Int).toNat)), (wrap64 (x4_1 + 1)), (by first | rfl | (simp; done) | (simp [*]; done)), (by first | rfl | (simp; done) | (simp [*]; done)), H', ⟨by have := HK1.out; omega⟩, by repeat (first | exact Drawn0.refl _ | apply Drawn0.step)⟩
                  · rw [if_neg c10] at H
                    exact absurd H (by simp)
                · rw [if_neg c9] at H
                  exact absurd H (by simp)
              · rw [if_neg c8] at H
                exact absurd H (by simp)
            · rw [if_neg c6] at H
              exact absurd H (by simp)
          · rw [if_neg c5] at H
            have c5b0 : ((bt a0 x4_1) == 34) = false := beq_eq_false_iff_ne.mpr c5
            have c5b1 : ((bt a0 x4_1) != 34) = true := bne_iff_ne.mpr c5
            by_cases c12 : (bt a0 x4_1) = 92
            · rw [if_pos c12] at H
              have c12b0 : ((bt a0 x4_1) == 92) = true := beq_iff_eq.mpr c12
              have c12b1 : ((bt a0 x4_1) != 92) = false := bne_eq_false_iff_eq.mpr c12
              clear c12
              by_cases c13 : x3_1.size + 1 ≤ 9223372036854775807
              · rw [if_pos c13] at H
                have c13b0 := eq_true c13
                have c13b1 : decide (x3_1.size + 1 ≤ 9223372036854775807) = true := decide_eq_true c13
                try have c13b2 : (9223372036854775807 < x3_1.size + 1) = False := eq_false (Nat.not_lt.2 c13)
                have c14b0 := eq_true (of_decide_eq_true (by first | (with_reducible assumption) | assumption) : 0 ≤ x4_1)
                by_cases c15 : x4_1 ≤ (wrap64 (x4_1 + 1))
                · rw [if_pos c15] at H
                  have c15b0 := eq_true c15
                  have c15b1 : decide (x4_1 ≤ (wrap64 (x4_1 + 1))) = true := decide_eq_true c15
                  by_cases c16 : (wrap64 (x4_1 + 1)) ≤ (a0.size : Int)
                  · rw [if_pos c16] at H
                    have c16b0 := eq_true c16
                    have c16b1 : decide ((wrap64 (x4_1 + 1)) ≤ (a0.size : Int)) = true := decide_eq_true c16
                    by_cases c17 : (x3_1 ++ (⟨#[92]⟩ : ByteArray)).size + (a0.extract (x4_1 : Int).toNat ((wrap64 (x4_1 + 1)) : Int).toNat).size ≤ 9223372036854775807
                    · rw [if_pos c17] at H
                      have c17b0 := eq_true c17
                      have c17b1 : decide ((x3_1 ++ (⟨#[92]⟩ : ByteArray)).size + (a0.extract (x4_1 : Int).toNat ((wrap64 (x4_1 + 1)) : Int).toNat).size ≤ 9223372036854775807) = true := decide_eq_true c17
                      try have c17b2 : (9223372036854775807 < (x3_1 ++ (⟨#[92]⟩ : ByteArray)).size + (a0.extract (x4_1 : Int).toNat ((wrap64 (x4_1 + 1)) : Int).toNat).size) = False := eq_false (Nat.not_lt.2 c17)
                      (try (have c17h := c17; simp only [ByteArray.size_append, ByteArray.size_extract, Int.toNat_natCast, Nat.sub_zero, Nat.min_self, ByteArray.extract_zero_size, show (⟨#[92]⟩ : ByteArray).size = 1 from rfl] at c17h; have c17b7 := eq_false (Nat.not_lt.2 c17h); clear c17h))
                      try have c17b5 : (9223372036854775807 < (x3_1.size + 1) + (((wrap64 (x4_1 + 1)) : Int).toNat - (x4_1 : Int).toNat)) = False := eq_false (Nat.not_lt.2 (by have h_ := c17; (try have e0_ : (wrap64 (x4_1 + 1)) ≤ (a0.size : Int) := of_decide_eq_true (by first | (with_reducible assumption) | assumption)); simp only [ByteArray.size_append, ByteArray.size_extract, show (⟨#[92]⟩ : ByteArray).size = 1 from rfl] at h_ ⊢; omega))
                      have H' := Aside0.mk H
                      clear H
                      have p4 : 0 ≤ (x4_1 : Int) := of_decide_eq_true (by first | (with_reducible assumption) | assumption)
                      have q4 : x4_1 < (a0.size : Int) := of_decide_eq_true (by first | (with_reducible assumption) | assumption)
                      have hx4 := bt_at a0 x4_1
                      replace p4 := eq_true p4
                      replace q4 := eq_true q4
                      have p11 : 0 ≤ (x4_1 : Int) := of_decide_eq_true (by first | (with_reducible assumption) | assumption)
                      have q11 : x4_1 < (a0.size : Int) := of_decide_eq_true (by first | (with_reducible assumption) | assumption)
                      have hx11 := bt_at a0 x4_1
                      replace p11 := eq_true p11
                      replace q11 := eq_true q11
                      go_wp2
                      go_roundg k1
                      case measure => have := HK1.out; omega
                      case rel => exact ⟨((x3_1 ++ (⟨#[92]⟩ : ByteArray)) ++ (a0.extract (x4_1 : Int).toNat ((wrap64 (x4_1 + 1)) : Int).toNat)), (wrap64 (x4_1 + 1)), (by first | rfl | (simp; done) | (simp [*]; done)), (by first | rfl | (simp; done) | (simp [*]; done)), H', ⟨by have := HK1.out; omega⟩, by repeat (first | exact Drawn0.refl _ | apply Drawn0.step)⟩
                    · rw [if_neg c17] at H
                      exact absurd H (by simp)
                  · rw [if_neg c16] at H
                    exact absurd H (by simp)
                · rw [if_neg c15] at H
                  exact absurd H (by simp)
              · rw [if_neg c13] at H
                exact absurd H (by simp)
            · rw [if_neg c12] at H
              have c12b0 : ((bt a0 x4_1) == 92) = false := beq_eq_false_iff_ne.mpr c12
              have c12b1 : ((bt a0 x4_1) != 92) = true := bne_iff_ne.mpr c12
              have c18b0 := eq_true (of_decide_eq_true (by first | (with_reducible assumption) | assumption) : 0 ≤ x4_1)
              by_cases c19 : x4_1 ≤ (wrap64 (x4_1 + 1))
              · rw [if_pos c19] at H
                have c19b0 := eq_true c19
                have c19b1 : decide (x4_1 ≤ (wrap64 (x4_1 + 1))) = true := decide_eq_true c19
                by_cases c20 : (wrap64 (x4_1 + 1)) ≤ (a0.size : Int)
                · rw [if_pos c20] at H
                  have c20b0 := eq_true c20
                  have c20b1 : decide ((wrap64 (x4_1 + 1)) ≤ (a0.size : Int)) = true := decide_eq_true c20
                  by_cases c21 : x3_1.size + (a0.extract (x4_1 : Int).toNat ((wrap64 (x4_1 + 1)) : Int).toNat).size ≤ 9223372036854775807
                  · rw [if_pos c21] at H
                    have c21b0 := eq_true c21
                    have c21b1 : decide (x3_1.size + (a0.extract (x4_1 : Int).toNat ((wrap64 (x4_1 + 1)) : Int).toNat).size ≤ 9223372036854775807) = true := decide_eq_true c21
                    try have c21b2 : (9223372036854775807 < x3_1.size + (a0.extract (x4_1 : Int).toNat ((wrap64 (x4_1 + 1)) : Int).toNat).size) = False := eq_false (Nat.not_lt.2 c21)
                    (try (have c21h := c21; simp only [ByteArray.size_append, ByteArray.size_extract, Int.toNat_natCast, Nat.sub_zero, Nat.min_self, ByteArray.extract_zero_size] at c21h; have c21b7 := eq_false (Nat.not_lt.2 c21h); clear c21h))
                    try have c21b5 : (9223372036854775807 < x3_1.size + (((wrap64 (x4_1 + 1)) : Int).toNat - (x4_1 : Int).toNat)) = False := eq_false (Nat.not_lt.2 (by have h_ := c21; (try have e0_ : (wrap64 (x4_1 + 1)) ≤ (a0.size : Int) := of_decide_eq_true (by first | (with_reducible assumption) | assumption)); simp only [ByteArray.size_append, ByteArray.size_extract] at h_ ⊢; omega))
                    have H' := Aside0.mk H
                    clear H
                    have p4 : 0 ≤ (x4_1 : Int) := of_decide_eq_true (by first | (with_reducible assumption) | assumption)
                    have q4 : x4_1 < (a0.size : Int) := of_decide_eq_true (by first | (with_reducible assumption) | assumption)
                    have hx4 := bt_at a0 x4_1
                    replace p4 := eq_true p4
                    replace q4 := eq_true q4
                    have p11 : 0 ≤ (x4_1 : Int) := of_decide_eq_true (by first | (with_reducible assumption) | assumption)
                    have q11 : x4_1 < (a0.size : Int) := of_decide_eq_true (by first | (with_reducible assumption) | assumption)
                    have hx11 := bt_at a0 x4_1
                    replace p11 := eq_true p11
                    replace q11 := eq_true q11
                    go_wp2
                    go_roundg k1
                    case measure => have := HK1.out; omega
                    case rel => exact ⟨(x3_1 ++ (a0.extract (x4_1 : Int).toNat ((wrap64 (x4_1 + 1)) : Int).toNat)), (wrap64 (x4_1 + 1)), (by first | rfl | (simp; done) | (simp [*]; done)), (by first | rfl | (simp; done) | (simp [*]; done)), H', ⟨by have := HK1.out; omega⟩, by repeat (first | exact Drawn0.refl _ | apply Drawn0.step)⟩
                  · rw [if_neg c21] at H
                    exact absurd H (by simp)
                · rw [if_neg c20] at H
                  exact absurd H (by simp)
              · rw [if_neg c19] at H
                exact absurd H (by simp)
        · rw [if_neg c3] at H
          exact absurd H (by simp)
      · rw [if_neg c2] at H
        have c2b0 : decide (x4_1 < (a0.size : Int)) = false := decide_eq_false c2
        clear c2
        by_cases c22 : x3_1.size + 1 ≤ 9223372036854775807
        · rw [if_pos c22] at H
          have c22b0 := eq_true c22
          have c22b1 : decide (x3_1.size + 1 ≤ 9223372036854775807) = true := decide_eq_true c22
          try have c22b2 : (9223372036854775807 < x3_1.size + 1) = False := eq_false (Nat.not_lt.2 c22)
          obtain rfl := Option.some.inj H
          go_wp2
          go_ret
          exact ⟨by first | rfl | (simp; done) | (simp [*]; done), by repeat (first | exact Drawn0.refl _ | apply Drawn0.step)⟩
        · rw [if_neg c22] at H
          exact absurd H (by simp)

end Go.Proofs.Ytcjepgofcojeoaa.P
