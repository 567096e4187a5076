import Derived.Test.YtckmfmfhhojmfaaPx0
import Derived.RangeFuncNested
import Derived.RangeFuncBound
import Derived.RangeFuncCalls
import Derived.RangeFuncLeaves
import Derived.Shelf.Abstract
import Derived.OwnWalkIn
import Derived.TacticsInMore
import Derived.LoopNIn
import Derived.LoopIn
import Derived.Maps.AppendAt
namespace Go.Proofs.Ytckmfmfhhojmfaa.P
open Go.RowKit Go.Shelf Go.Proofs.YtckmfmfhhojmfaaW.PrintWords Go.Proofs.YtckmfmfhhojmfaaW.PrintLast Go.Proofs.YtckmfmfhhojmfaaW.PrintMore
attribute [-simp] Int.tmod_tmod_of_dvd
set_option linter.unusedVariables false
set_option linter.unusedSimpArgs false
def ixn : List Int → Int → Nat
  | [], _ => 0
  | x :: t, v => if x = v then 0 else ixn t v + 1
def ln_nx (l : List Int) (en at_ : Nat) : S40 :=
  let m := ixn ((l.take en).drop at_) 10
  if m < en - at_ then ⟨(at_ : Int), (if 0 < m ∧ rd l ((at_ + m - 1 : Nat) : Int) = 13 then ((at_ + m - 1 : Nat) : Int) else ((at_ + m : Nat) : Int)), ((at_ + m + 1 : Nat) : Int)⟩ else ⟨(at_ : Int), (en : Int), (en : Int)⟩
def ln_all (l : List Int) (en : Nat) : Nat → Nat → List S40
  | 0, _ => []
  | d + 1, at_ => if at_ < en then ln_nx l en at_ :: ln_all l en d (ln_nx l en at_).f2.toNat else []
theorem ixn_le (l : List Int) (v : Int) : ixn l v ≤ l.length := by
  induction l with
  | nil => simp [ixn]
  | cons x t ih => unfold ixn; split <;> simp <;> omega
theorem ixn_at (v : Int) : ∀ (l : List Int) (k : Nat), k ≤ l.length → (∀ j : Nat, j < k → rd l (j : Int) ≠ v) → (k = l.length ∨ rd l (k : Int) = v) → ixn l v = k
  | [], k, h, _, _ => by simp at h; subst h; rfl
  | x :: t, 0, _, _, h => by
    rcases h with h | h
    · simp at h
    · show (if x = v then 0 else ixn t v + 1) = 0
      exact if_pos h
  | x :: t, k + 1, hk, hn, h => by
    have h0 := hn 0 (by omega)
    show (if x = v then 0 else ixn t v + 1) = k + 1
    rw [if_neg (show ¬ x = v from h0), ixn_at v t k (by simp at hk; omega) (fun j hj => hn (j + 1) (by omega)) (h.elim (fun h => .inl (by simp at h; exact h)) (fun h => .inr h))]
theorem ln_klt (k m : Nat) (h : k < m) : decide ((k : Int) < (m : Int)) = true := decide_eq_true (by omega)
theorem ln_kge (k m : Nat) (h : ¬ k < m) : decide ((k : Int) < (m : Int)) = false := decide_eq_false (by omega)
def ixr (l : List Int) (v : Int) : Int := if ixn l v < l.length then (ixn l v : Int) else -1
set_option maxHeartbeats 1000000 in
/-- slices.Index -/
theorem ln_Index (F : Fence) (n : Nat) (h22 : F.fn 36) (hro : F.round = none) (A : Option Addr) (m c : Nat) (l : List Int) (v : Int) (w : World) (hm : m = l.length) (hr : Kd.C (Kd.int .u8) w A l.length l) (hl : l.length ≤ 100000) :
    CallsIn F n Try.prog 36 #[.slice A m c, .int .u8 v] w fun e w' => e = .returned (.int .i64 (ixr l v)) ∧ w' = w := by
  subst hm
  refine callsIn_of_wp Try.func36 rfl h22 ?_ hro
  simp only [Try.ntmps36, List.size_toArray, List.length_cons, List.length_nil, Nat.reduceAdd, Nat.reduceSub, Array.replicate_succ, Array.replicate_zero, List.push_toArray, List.append_toArray, List.nil_append, List.cons_append]
  gi_wp2
  gi_loopw [8] (fun i wr => ∃ k : Nat, k ≤ l.length ∧ i = .int .i64 (k : Int) ∧ wr = w ∧ Aside0 (∀ j : Nat, j < k → rd l (j : Int) ≠ v)) (fun i _ => l.length - (intOf i).toNat)
  case atStart => exact ⟨0, Nat.zero_le _, rfl, rfl, ⟨fun j hj => by omega⟩⟩
  case round =>
    obtain ⟨k, hk, rfl, rfl, hn⟩ := hrel
    by_cases hlt : k < l.length
    · have hb := ln_klt k _ hlt
      obtain ⟨ad, e1, hx⟩ := Kd.at_int hr (k : Int) (by omega) (by omega)
      cases e1
      simp only [Int.toNat_natCast] at hx
      by_cases hv : v = rd l (k : Int)
      · have hvb : (v == rd l (k : Int)) = true := beq_iff_eq.mpr hv
        have HR := Aside0.mk (show ixr l v = (k : Int) from by unfold ixr; rw [ixn_at v l k hk hn.out (.inr hv.symm), if_pos hlt])
        clear hv
        gi_wp2
        go_ret
        rw [HR.out]
        exact ⟨rfl, rfl⟩
      · have hvb : (v == rd l (k : Int)) = false := beq_eq_false_iff_ne.mpr hv
        have HV := Aside0.mk hv
        clear hv
        gi_wp2
        go_roundw
        case rel => exact ⟨k + 1, by omega, by go_num, by simp, ⟨fun j hj => by
          by_cases e : j = k
          · subst e; exact fun h => HV.out h.symm
          · exact hn.out j (by omega)⟩⟩
        case measure => simp [intOf]; omega
    · have hb := ln_kge k _ hlt
      have HR := Aside0.mk (show ixr l v = -1 from by unfold ixr; rw [ixn_at v l k hk hn.out (.inl (by omega)), if_neg hlt])
      gi_wp2
      go_ret
      rw [HR.out]
      exact ⟨rfl, rfl⟩
/-- what a round that goes on keeps: what lay below n₀; and all cells but the box B and the row that its value owns -/
structure KpO (n₀ B : Nat) (W W' : World) : Prop where
  below : Below n₀ W W'
  size : W.heap.size ≤ W'.heap.size
  keeps : ∀ t v, W.heap[B]? = some (.cells #[v] t (0, 0)) → ∃ v', W'.heap[B]? = some (.cells #[v'] t (0, 0)) ∧ (v'.ownBlock = v.ownBlock ∨ ∃ k, v'.ownBlock = some k ∧ W.heap.size ≤ k ∧ k < W'.heap.size) ∧
    ∀ k o, W.heap[k]? = some o → o.isCells = true → k ≠ B → v.ownBlock ≠ some k → W'.heap[k]? = some o
theorem KpO.trans {n₀ B : Nat} {X Y Z : World} (h : KpO n₀ B X Y) (k : KpO n₀ B Y Z) : KpO n₀ B X Z := by
  refine ⟨h.below.trans k.below, Nat.le_trans h.size k.size, fun t v hv => ?_⟩
  obtain ⟨v', h1, h2, h3⟩ := h.keeps t v hv
  obtain ⟨v'', k1, k2, k3⟩ := k.keeps t v' h1
  have s1 := h.size
  have s2 := k.size
  refine ⟨v'', k1, ?_, fun j o hj hc hB hn => ?_⟩
  · rcases k2 with k2 | ⟨q, k2, q1, q2⟩
    · rcases h2 with h2 | ⟨q, h2, q1, q2⟩
      · exact .inl (k2.trans h2)
      · exact .inr ⟨q, k2.trans h2, q1, by omega⟩
    · exact .inr ⟨q, k2, by omega, q2⟩
  · refine k3 j o (h3 j o hj hc hB hn) hc hB ?_
    have hjl := (Array.getElem?_eq_some_iff.1 hj).1
    rcases h2 with h2 | ⟨q, h2, q1, q2⟩
    · rw [h2]; exact hn
    · rw [h2]; intro e; cases e; omega
theorem KpO.put {n₀ B : Nat} (W : World) (l : Nat) (o o' : Obj) (hn : n₀ ≤ l) (hl : W.heap[l]? = some o) (hc : o.isCells = false) : KpO n₀ B W (W.putObj l o') := by
  have hll := (Array.getElem?_eq_some_iff.1 hl).1
  refine ⟨(Below.refl n₀ W).grown (grownBy_putObj' W l o') (by omega) (fun k e => by cases e; exact hn), (grownBy_putObj' W l o').size, fun t v hv => ⟨v, ?_, .inl rfl, fun k q hk hq hB hn => ?_⟩⟩
  · rw [World.putObj_heap_other (by intro e; subst e; rw [hl] at hv; cases hv; cases hc)]; exact hv
  · rw [World.putObj_heap_other (by intro e; subst e; rw [hl] at hk; cases hk; rw [hc] at hq; cases hq)]; exact hk
def ln_enc (x : S40) : Array Value := #[.agg #[.int .i64 x.f0, .int .i64 x.f1, .int .i64 x.f2]]
/-- the box's value owns nothing that isn't there -/
def BoxOk (B : Nat) (W : World) : Prop := ∃ t v, W.heap[B]? = some (.cells #[v] t (0, 0)) ∧ ∀ k, v.ownBlock = some k → k < W.heap.size
theorem BoxOk.kp {n₀ B : Nat} {X Y : World} (h : BoxOk B X) (k : KpO n₀ B X Y) : BoxOk B Y := by
  obtain ⟨t, v, h1, h2⟩ := h
  obtain ⟨v', k1, k2, _⟩ := k.keeps t v h1
  refine ⟨t, v', k1, fun q hq => ?_⟩
  rcases k2 with k2 | ⟨j, k2, _, k4⟩
  · have := h2 q (k2.symm.trans hq); have := k.size; omega
  · rw [k2] at hq; cases hq; exact k4
theorem BoxOk.alloc {B : Nat} {X : World} (h : BoxOk B X) (o : Obj) : BoxOk B (X.alloc o) := by
  obtain ⟨t, v, h1, h2⟩ := h
  exact ⟨t, v, ((below_alloc (Below.refl _ _) o).block B (Array.getElem?_eq_some_iff.1 h1).1).trans h1, fun k hk => by have := h2 k hk; simp; omega⟩
theorem ln_nx_no {l sub : List Int} {en at_ m : Nat} (hs : sub = (l.take en).drop at_) (hm : m = ixn sub 10) (h : ¬ m < en - at_) : ln_nx l en at_ = ⟨(at_ : Int), (en : Int), (en : Int)⟩ := by
  unfold ln_nx
  rw [← hs, ← hm]
  exact if_neg h
theorem ln_nx_yes {l sub : List Int} {en at_ m : Nat} (hs : sub = (l.take en).drop at_) (hm : m = ixn sub 10) (h : m < en - at_) (x : Int) (hx : (if 0 < m ∧ rd l ((at_ + m - 1 : Nat) : Int) = 13 then ((at_ + m - 1 : Nat) : Int) else ((at_ + m : Nat) : Int)) = x) : ln_nx l en at_ = ⟨(at_ : Int), x, (at_ : Int) + (m : Int) + 1⟩ := by
  unfold ln_nx
  rw [← hs, ← hm]
  refine (if_pos h).trans ?_
  rw [hx, show ((at_ + m + 1 : Nat) : Int) = (at_ : Int) + (m : Int) + 1 by omega]
theorem ln_nx_lt (l : List Int) (en at_ : Nat) (h : at_ < en) : at_ < (ln_nx l en at_).f2.toNat ∧ (ln_nx l en at_).f2.toNat ≤ en ∧ (ln_nx l en at_).f2 = ((ln_nx l en at_).f2.toNat : Int) := by
  unfold ln_nx
  dsimp only
  split
  · dsimp only; omega
  · dsimp only; omega
theorem ln_all_fuel (l : List Int) (en : Nat) : ∀ (d at_ : Nat), en - at_ ≤ d → ln_all l en d at_ = ln_all l en (en - at_) at_ := by
  intro d
  induction d using Nat.strongRecOn with
  | _ d ih =>
    intro at_ hd
    cases d with
    | zero => rw [show en - at_ = 0 by omega]
    | succ d =>
      by_cases h : at_ < en
      · have h1 := ln_nx_lt l en at_ h
        obtain ⟨e, he⟩ : ∃ e, en - at_ = e + 1 := ⟨en - at_ - 1, by omega⟩
        rw [he]
        unfold ln_all
        rw [if_pos h, if_pos h]
        congr 1
        by_cases hde : d = e
        · rw [hde]
        · rw [ih d (by omega) _ (by omega), ih e (by omega) _ (by omega)]
      · rw [show en - at_ = 0 by omega]
        unfold ln_all
        rw [if_neg h]
/-- the lines from a place on -/
def ln_from (l : List Int) (en at_ : Nat) : List S40 := ln_all l en (en - at_) at_
theorem ln_from_step (l : List Int) (en at_ : Nat) (h : at_ < en) : ln_from l en at_ = ln_nx l en at_ :: ln_from l en (ln_nx l en at_).f2.toNat := by
  have h1 := ln_nx_lt l en at_ h
  obtain ⟨e, he⟩ : ∃ e, en - at_ = e + 1 := ⟨en - at_ - 1, by omega⟩
  unfold ln_from
  rw [he]
  show (if at_ < en then ln_nx l en at_ :: ln_all l en e (ln_nx l en at_).f2.toNat else []) = _
  rw [if_pos h, ln_all_fuel l en e _ (by omega)]
theorem ln_from_end (l : List Int) (en at_ : Nat) (h : ¬ at_ < en) : ln_from l en at_ = [] := by
  unfold ln_from
  rw [show en - at_ = 0 by omega]; rfl
set_option maxHeartbeats 4000000 in
theorem ln_all1 (F : Fence) (n : Nat) (h21 : F.fn 35) (h22 : F.fn 36) (hro : F.round = none) (hn : 2 ≤ n) (l Bs Bb n₀ : Nat) (Kp : World → World → Prop) (Ok : World → Prop) (p1 : ∀ {X Y}, Kp X Y → Below n₀ X Y) (p2 : ∀ {X Y o}, Kp X Y → Ok X → o.isCells = true → (X.heap[Bs]? = some o → Y.heap[Bs]? = some o) ∧ (X.heap[Bb]? = some o → Y.heap[Bb]? = some o)) (p3 : ∀ {X Y o}, Ok X → Kp (X.alloc o) Y → o.isCells = true → Y.heap[X.heap.size]? = some o) (p4 : ∀ {X o}, Ok X → Ok (X.alloc o)) (p5 : ∀ {X Y}, Ok X → Kp X Y → Ok Y) (A : Option Addr) (c : Nat) (b : List Int) (fr en : Nat) (hlen : b.length ≤ 100000) (hc : b.length ≤ c) (hft : fr ≤ en) (hen : en ≤ b.length)
    (J Jx : List S40 → World → Prop)
    (hY : ∀ pre x W, J pre W → pre.length < (ln_from b en fr).length → YieldAt F (n - 1) Try.prog l (ln_enc x) W fun e W' =>
      (e = .returned (.bool true) ∧ J (pre ++ [x]) W' ∧ Kp W W') ∨ (e = .returned (.bool false) ∧ Jx (pre ++ [x]) W'))
    (W : World) (hJ : AbidesFrom W.heap.size J) (hn0 : n₀ ≤ W.heap.size) 
    (hs : W.heap[Bs]? = some (.cells #[.int .i64 (fr : Int), .int .i64 (en : Int)] 29 (0, 0))) (hb : W.heap[Bb]? = some (.cells #[.slice A b.length c] 22 (0, 0))) (hA : ∀ W', Below n₀ W W' → Kd.C (Kd.int .u8) W' A b.length b) (hok : Ok W) (h0 : J [] W) :
    CallsIn F n Try.prog 35 #[.func (.yield l) #[] #[], .pointer (some ⟨Bs, 0, none⟩), .pointer (some ⟨Bb, 0, none⟩)] W fun e W' => (∃ v, e = .returned v) ∧
      ((∃ ys, ys = ln_from b en fr ∧ J ys W') ∨ (∃ pre, pre <+: ln_from b en fr ∧ Jx pre W')) := by
  refine callsIn_of_wp Try.func35 rfl h21 ?_ hro
  simp only [Try.ntmps35, List.size_toArray, List.length_cons, List.length_nil, Nat.reduceAdd, Nat.reduceSub, Array.replicate_succ, Array.replicate_zero, List.push_toArray, List.append_toArray, List.nil_append, List.cons_append]
  have hs0 := cell_of_row W Bs 0 _ _ _ hs
  have hs1 := cell_of_row W Bs 1 _ _ _ hs
  simp at hs0 hs1
  gi_wp2
  gi_loopw [4] (fun i wr => ∃ (at_ : Nat) (pre : List S40), i = .int .i64 (at_ : Int) ∧ at_ ≤ en ∧ Aside0 (ln_from b en fr = pre ++ ln_from b en at_) ∧ Aside0 (J pre wr) ∧ Aside0 (Below n₀ W wr) ∧ Aside0 (Ok wr) ∧ Aside0 (wr.heap[Bs]? = some (.cells #[.int .i64 (fr : Int), .int .i64 (en : Int)] 29 (0, 0)) ∧ wr.heap[Bb]? = some (.cells #[.slice A b.length c] 22 (0, 0)))) (fun i _ => en - (intOf i).toNat)
  case atStart => exact ⟨fr, [], rfl, hft, ⟨rfl⟩, ⟨h0⟩, ⟨Below.refl _ _⟩, ⟨hok⟩, ⟨hs, hb⟩⟩
  case round =>
    obtain ⟨at_, pre, rfl, hat, hsp, hJs, hbw, hbo, hbx⟩ := hrel
    have hq1 := hbx.out.1
    have hqb := hbx.out.2
    have hs1 := cell_of_row wr Bs 1 _ _ _ hq1
    have hb0 := cell_of_row wr Bb 0 _ _ _ hqb
    simp at hs1 hb0
    have hwz := Nat.le_trans hn0 hbw.out.size
    have hBs2 : Bs < wr.heap.size := (Array.getElem?_eq_some_iff.1 hq1).1
    have hBb2 : Bb < wr.heap.size := (Array.getElem?_eq_some_iff.1 hqb).1
    have hne1 : ¬ Bs = wr.heap.size := Nat.ne_of_lt hBs2
    have hne2 : ¬ Bb = wr.heap.size := Nat.ne_of_lt hBb2
    have hne3 : ¬ wr.heap.size = Bs := fun e => hne1 e.symm
    have hne4 : ¬ wr.heap.size = Bb := fun e => hne2 e.symm
    by_cases hlt : at_ < en
    · have hltb := ln_klt at_ en hlt
      obtain ⟨sub, hsub⟩ : ∃ sub, sub = (b.take en).drop at_ := ⟨_, rfl⟩
      have hsl : sub.length = en - at_ := by rw [hsub, List.length_drop, List.length_take]; omega
      have hCb := Aside0.mk (hA wr hbw.out)
      have hC1 : Aside0 (Kd.C (Kd.int .u8) wr (A.map (·.add at_)) sub.length sub) := ⟨by
        have h1 := Kd.C_mid hCb.out (lo := at_) (hi := en) (by omega) hen hc
        rw [if_neg (by omega), show (Kd.int .u8).sz = 1 from rfl, Nat.mul_one] at h1
        rw [hsub]; exact h1⟩
      have HSUB := Aside0.mk hsub
      clear hsub
      obtain ⟨m, hm⟩ : ∃ m, m = ixn sub 10 := ⟨_, rfl⟩
      have HM := Aside0.mk hm
      clear hm
      by_cases hf : m < sub.length
      · have HI := Aside0.mk (show ixr sub 10 = (m : Int) from by unfold ixr; rw [← HM.out, if_pos hf])
        have hmb : decide ((0 : Int) ≤ (m : Int)) = true := decide_eq_true (by omega)
        have hfe : m < en - at_ := by omega
        by_cases hm0 : 0 < m
        · have hmb2 : decide ((0 : Int) < (m : Int)) = true := decide_eq_true (by omega)
          obtain ⟨ad1, e1, hx1⟩ := Kd.at_int (hA wr hbw.out) ((at_ + m - 1 : Nat) : Int) (by omega) (by omega)
          cases e1
          simp only [Int.toNat_natCast] at hx1
          have hx1a := fun o => ((below_alloc (Below.refl wr.heap.size wr) o).cell (World.block_lt_of_cell? wr _ hx1)).trans hx1
          have hq : (at_ : Int) + (m : Int) - 1 = ((at_ + m - 1 : Nat) : Int) := by omega
          by_cases h13 : rd b ((at_ + m - 1 : Nat) : Int) = 13
          · have h13b : (rd b ((at_ + m - 1 : Nat) : Int) == 13) = true := beq_iff_eq.mpr h13
            have HX : Aside0 (ln_nx b en at_ = (⟨(at_ : Int), ((at_ + m - 1 : Nat) : Int), (at_ : Int) + (m : Int) + 1⟩ : S40)) := ⟨ln_nx_yes HSUB.out HM.out hfe _ (if_pos ⟨hm0, h13⟩)⟩
            have hJ2 := hJ pre wr (wr.alloc (.cells #[.int .i64 (at_ : Int), .int .i64 (((at_ + m - 1 : Nat) : Int)), .int .i64 ((at_ : Int) + (m : Int) + 1)] 40)) none hJs.out (World.grownBy_alloc _ _ _) (fun r e => by cases e)
            obtain ⟨fn, tmps, assign, body, hy, hR⟩ := hY pre (⟨(at_ : Int), ((at_ + m - 1 : Nat) : Int), (at_ : Int) + (m : Int) + 1⟩ : S40) (wr.alloc (.cells #[.int .i64 (at_ : Int), .int .i64 (((at_ + m - 1 : Nat) : Int)), .int .i64 ((at_ : Int) + (m : Int) + 1)] 40)) hJ2 (by rw [hsp.out, ln_from_step _ _ _ hlt]; simp)
            dsimp only [ln_enc] at hy
            have HR := Aside0.mk hR
            clear hR hJ2
            gi_wp2_with (refine ⟨fun _ => by omega, ?_⟩; refine (ln_Index F (n - 1) h22 hro _ (en - at_) (c - at_) sub 10 _ hsl.symm (Kd.C_below hC1.out (below_alloc (Below.refl _ _) _)) (by omega)).mono ?_; simp only [HI.out]; rintro e w' ⟨rfl, rfl⟩)
            refine ⟨fun _ => by omega, HR.out.mono ?_⟩
            rintro e W3 (⟨rfl, hJ3, hk3⟩ | ⟨rfl, hJx3⟩)
            · have h3 := p3 hbo.out hk3 rfl
              have hq3 := cell_of_row W3 wr.heap.size 2 _ _ _ h3
              simp at hq3
              have HJ3 := Aside0.mk hJ3
              have HK3 := Aside0.mk hk3
              have hnx := ln_nx_lt b en at_ hlt
              rw [HX.out] at hnx
              dsimp only at hnx
              have HNX := Aside0.mk hnx
              clear hJ3 hk3 hnx
              gi_wp2
              go_roundw
              case rel => exact ⟨((at_ : Int) + (m : Int) + 1).toNat, pre ++ [(⟨(at_ : Int), ((at_ + m - 1 : Nat) : Int), (at_ : Int) + (m : Int) + 1⟩ : S40)], by rw [← HNX.out.2.2], HNX.out.2.1, ⟨by rw [hsp.out, ln_from_step _ _ _ hlt, HX.out]; simp⟩, ⟨HJ3.out⟩, ⟨(hbw.out.alloc hwz _).trans (p1 HK3.out)⟩, ⟨p5 (p4 hbo.out) HK3.out⟩, ⟨⟨(p2 HK3.out (p4 hbo.out) rfl).1 (((below_alloc (Below.refl _ _) _).block Bs hBs2).trans hbx.out.1), (p2 HK3.out (p4 hbo.out) rfl).2 (((below_alloc (Below.refl _ _) _).block Bb hBb2).trans hbx.out.2)⟩⟩⟩
              case measure => have := HNX.out; simp [intOf]; omega
            · gi_wp2
              refine bodyPost_ret (results_none rfl _ _ _) rfl ?_
              exact ⟨⟨_, rfl⟩, .inr ⟨pre ++ [(⟨(at_ : Int), ((at_ + m - 1 : Nat) : Int), (at_ : Int) + (m : Int) + 1⟩ : S40)], ⟨ln_from b en ((at_ : Int) + (m : Int) + 1).toNat, by rw [hsp.out, ln_from_step _ _ _ hlt, HX.out]; simp⟩, hJx3⟩⟩
          · have h13b : (rd b ((at_ + m - 1 : Nat) : Int) == 13) = false := beq_eq_false_iff_ne.mpr h13
            have HX : Aside0 (ln_nx b en at_ = (⟨(at_ : Int), (at_ : Int) + (m : Int), (at_ : Int) + (m : Int) + 1⟩ : S40)) := ⟨ln_nx_yes HSUB.out HM.out hfe _ ((if_neg (fun h => h13 h.2)).trans (by omega))⟩
            have hJ2 := hJ pre wr (wr.alloc (.cells #[.int .i64 (at_ : Int), .int .i64 ((at_ : Int) + (m : Int)), .int .i64 ((at_ : Int) + (m : Int) + 1)] 40)) none hJs.out (World.grownBy_alloc _ _ _) (fun r e => by cases e)
            obtain ⟨fn, tmps, assign, body, hy, hR⟩ := hY pre (⟨(at_ : Int), (at_ : Int) + (m : Int), (at_ : Int) + (m : Int) + 1⟩ : S40) (wr.alloc (.cells #[.int .i64 (at_ : Int), .int .i64 ((at_ : Int) + (m : Int)), .int .i64 ((at_ : Int) + (m : Int) + 1)] 40)) hJ2 (by rw [hsp.out, ln_from_step _ _ _ hlt]; simp)
            dsimp only [ln_enc] at hy
            have HR := Aside0.mk hR
            clear hR hJ2
            gi_wp2_with (refine ⟨fun _ => by omega, ?_⟩; refine (ln_Index F (n - 1) h22 hro _ (en - at_) (c - at_) sub 10 _ hsl.symm (Kd.C_below hC1.out (below_alloc (Below.refl _ _) _)) (by omega)).mono ?_; simp only [HI.out]; rintro e w' ⟨rfl, rfl⟩)
            refine ⟨fun _ => by omega, HR.out.mono ?_⟩
            rintro e W3 (⟨rfl, hJ3, hk3⟩ | ⟨rfl, hJx3⟩)
            · have h3 := p3 hbo.out hk3 rfl
              have hq3 := cell_of_row W3 wr.heap.size 2 _ _ _ h3
              simp at hq3
              have HJ3 := Aside0.mk hJ3
              have HK3 := Aside0.mk hk3
              have hnx := ln_nx_lt b en at_ hlt
              rw [HX.out] at hnx
              dsimp only at hnx
              have HNX := Aside0.mk hnx
              clear hJ3 hk3 hnx
              gi_wp2
              go_roundw
              case rel => exact ⟨((at_ : Int) + (m : Int) + 1).toNat, pre ++ [(⟨(at_ : Int), (at_ : Int) + (m : Int), (at_ : Int) + (m : Int) + 1⟩ : S40)], by rw [← HNX.out.2.2], HNX.out.2.1, ⟨by rw [hsp.out, ln_from_step _ _ _ hlt, HX.out]; simp⟩, ⟨HJ3.out⟩, ⟨(hbw.out.alloc hwz _).trans (p1 HK3.out)⟩, ⟨p5 (p4 hbo.out) HK3.out⟩, ⟨⟨(p2 HK3.out (p4 hbo.out) rfl).1 (((below_alloc (Below.refl _ _) _).block Bs hBs2).trans hbx.out.1), (p2 HK3.out (p4 hbo.out) rfl).2 (((below_alloc (Below.refl _ _) _).block Bb hBb2).trans hbx.out.2)⟩⟩⟩
              case measure => have := HNX.out; simp [intOf]; omega
            · gi_wp2
              refine bodyPost_ret (results_none rfl _ _ _) rfl ?_
              exact ⟨⟨_, rfl⟩, .inr ⟨pre ++ [(⟨(at_ : Int), (at_ : Int) + (m : Int), (at_ : Int) + (m : Int) + 1⟩ : S40)], ⟨ln_from b en ((at_ : Int) + (m : Int) + 1).toNat, by rw [hsp.out, ln_from_step _ _ _ hlt, HX.out]; simp⟩, hJx3⟩⟩
        · have hmb2 : decide ((0 : Int) < (m : Int)) = false := decide_eq_false (by omega)
          have HX : Aside0 (ln_nx b en at_ = (⟨(at_ : Int), (at_ : Int) + (m : Int), (at_ : Int) + (m : Int) + 1⟩ : S40)) := ⟨ln_nx_yes HSUB.out HM.out hfe _ ((if_neg (fun h => hm0 h.1)).trans (by omega))⟩
          have hJ2 := hJ pre wr (wr.alloc (.cells #[.int .i64 (at_ : Int), .int .i64 ((at_ : Int) + (m : Int)), .int .i64 ((at_ : Int) + (m : Int) + 1)] 40)) none hJs.out (World.grownBy_alloc _ _ _) (fun r e => by cases e)
          obtain ⟨fn, tmps, assign, body, hy, hR⟩ := hY pre (⟨(at_ : Int), (at_ : Int) + (m : Int), (at_ : Int) + (m : Int) + 1⟩ : S40) (wr.alloc (.cells #[.int .i64 (at_ : Int), .int .i64 ((at_ : Int) + (m : Int)), .int .i64 ((at_ : Int) + (m : Int) + 1)] 40)) hJ2 (by rw [hsp.out, ln_from_step _ _ _ hlt]; simp)
          dsimp only [ln_enc] at hy
          have HR := Aside0.mk hR
          clear hR hJ2
          gi_wp2_with (refine ⟨fun _ => by omega, ?_⟩; refine (ln_Index F (n - 1) h22 hro _ (en - at_) (c - at_) sub 10 _ hsl.symm (Kd.C_below hC1.out (below_alloc (Below.refl _ _) _)) (by omega)).mono ?_; simp only [HI.out]; rintro e w' ⟨rfl, rfl⟩)
          refine ⟨fun _ => by omega, HR.out.mono ?_⟩
          rintro e W3 (⟨rfl, hJ3, hk3⟩ | ⟨rfl, hJx3⟩)
          · have h3 := p3 hbo.out hk3 rfl
            have hq3 := cell_of_row W3 wr.heap.size 2 _ _ _ h3
            simp at hq3
            have HJ3 := Aside0.mk hJ3
            have HK3 := Aside0.mk hk3
            have hnx := ln_nx_lt b en at_ hlt
            rw [HX.out] at hnx
            dsimp only at hnx
            have HNX := Aside0.mk hnx
            clear hJ3 hk3 hnx
            gi_wp2
            go_roundw
            case rel => exact ⟨((at_ : Int) + (m : Int) + 1).toNat, pre ++ [(⟨(at_ : Int), (at_ : Int) + (m : Int), (at_ : Int) + (m : Int) + 1⟩ : S40)], by rw [← HNX.out.2.2], HNX.out.2.1, ⟨by rw [hsp.out, ln_from_step _ _ _ hlt, HX.out]; simp⟩, ⟨HJ3.out⟩, ⟨(hbw.out.alloc hwz _).trans (p1 HK3.out)⟩, ⟨p5 (p4 hbo.out) HK3.out⟩, ⟨⟨(p2 HK3.out (p4 hbo.out) rfl).1 (((below_alloc (Below.refl _ _) _).block Bs hBs2).trans hbx.out.1), (p2 HK3.out (p4 hbo.out) rfl).2 (((below_alloc (Below.refl _ _) _).block Bb hBb2).trans hbx.out.2)⟩⟩⟩
            case measure => have := HNX.out; simp [intOf]; omega
          · gi_wp2
            refine bodyPost_ret (results_none rfl _ _ _) rfl ?_
            exact ⟨⟨_, rfl⟩, .inr ⟨pre ++ [(⟨(at_ : Int), (at_ : Int) + (m : Int), (at_ : Int) + (m : Int) + 1⟩ : S40)], ⟨ln_from b en ((at_ : Int) + (m : Int) + 1).toNat, by rw [hsp.out, ln_from_step _ _ _ hlt, HX.out]; simp⟩, hJx3⟩⟩
      · have HI := Aside0.mk (show ixr sub 10 = -1 from by unfold ixr; rw [← HM.out, if_neg hf])
        have hfe : ¬ m < en - at_ := by omega
        have HX : Aside0 (ln_nx b en at_ = (⟨(at_ : Int), (en : Int), (en : Int)⟩ : S40)) := ⟨ln_nx_no HSUB.out HM.out hfe⟩
        have hJ2 := hJ pre wr (wr.alloc (.cells #[.int .i64 (at_ : Int), .int .i64 ((en : Int)), .int .i64 ((en : Int))] 40)) none hJs.out (World.grownBy_alloc _ _ _) (fun r e => by cases e)
        obtain ⟨fn, tmps, assign, body, hy, hR⟩ := hY pre (⟨(at_ : Int), (en : Int), (en : Int)⟩ : S40) (wr.alloc (.cells #[.int .i64 (at_ : Int), .int .i64 ((en : Int)), .int .i64 ((en : Int))] 40)) hJ2 (by rw [hsp.out, ln_from_step _ _ _ hlt]; simp)
        dsimp only [ln_enc] at hy
        have HR := Aside0.mk hR
        clear hR hJ2
        gi_wp2_with (refine ⟨fun _ => by omega, ?_⟩; refine (ln_Index F (n - 1) h22 hro _ (en - at_) (c - at_) sub 10 _ hsl.symm (Kd.C_below hC1.out (below_alloc (Below.refl _ _) _)) (by omega)).mono ?_; simp only [HI.out]; rintro e w' ⟨rfl, rfl⟩)
        refine ⟨fun _ => by omega, HR.out.mono ?_⟩
        rintro e W3 (⟨rfl, hJ3, hk3⟩ | ⟨rfl, hJx3⟩)
        · have h3 := p3 hbo.out hk3 rfl
          have hq3 := cell_of_row W3 wr.heap.size 2 _ _ _ h3
          simp at hq3
          have HJ3 := Aside0.mk hJ3
          have HK3 := Aside0.mk hk3
          have hnx := ln_nx_lt b en at_ hlt
          rw [HX.out] at hnx
          dsimp only at hnx
          have HNX := Aside0.mk hnx
          clear hJ3 hk3 hnx
          gi_wp2
          go_roundw
          case rel => exact ⟨((en : Int)).toNat, pre ++ [(⟨(at_ : Int), (en : Int), (en : Int)⟩ : S40)], by rw [← HNX.out.2.2], HNX.out.2.1, ⟨by rw [hsp.out, ln_from_step _ _ _ hlt, HX.out]; simp⟩, ⟨HJ3.out⟩, ⟨(hbw.out.alloc hwz _).trans (p1 HK3.out)⟩, ⟨p5 (p4 hbo.out) HK3.out⟩, ⟨⟨(p2 HK3.out (p4 hbo.out) rfl).1 (((below_alloc (Below.refl _ _) _).block Bs hBs2).trans hbx.out.1), (p2 HK3.out (p4 hbo.out) rfl).2 (((below_alloc (Below.refl _ _) _).block Bb hBb2).trans hbx.out.2)⟩⟩⟩
          case measure => have := HNX.out; simp [intOf]; omega
        · gi_wp2
          refine bodyPost_ret (results_none rfl _ _ _) rfl ?_
          exact ⟨⟨_, rfl⟩, .inr ⟨pre ++ [(⟨(at_ : Int), (en : Int), (en : Int)⟩ : S40)], ⟨ln_from b en ((en : Int)).toNat, by rw [hsp.out, ln_from_step _ _ _ hlt, HX.out]; simp⟩, hJx3⟩⟩
    · have hltb := ln_kge at_ en hlt
      gi_wp2
      go_end0
      exact ⟨⟨_, rfl⟩, .inl ⟨pre, by rw [hsp.out, ln_from_end _ _ _ hlt, List.append_nil], hJs.out⟩⟩
theorem BoxOk.of {B : Nat} {X Y : World} (h : BoxOk B X) (hb : Below X.heap.size X Y) : BoxOk B Y := by
  obtain ⟨t, v, h1, h2⟩ := h
  exact ⟨t, v, (hb.block B (Array.getElem?_eq_some_iff.1 h1).1).trans h1, fun k hk => by have := h2 k hk; have := hb.size; omega⟩
theorem ln_stops (F : Fence) (n : Nat) (h21 : F.fn 35) (h22 : F.fn 36) (hro : F.round = none) (hn : 2 ≤ n) (B Bs Bb n₀ : Nat) (A : Option Addr) (c : Nat) (b : List Int) (fr en : Nat) (hlen : b.length ≤ 100000) (hc : b.length ≤ c) (hft : fr ≤ en) (hen : en ≤ b.length)
    (w : World) (hn0 : n₀ ≤ w.heap.size) (hBs : Bs < n₀) (hBb : Bb < n₀)
    (hs : w.heap[Bs]? = some (.cells #[.int .i64 (fr : Int), .int .i64 (en : Int)] 29 (0, 0))) (hb : w.heap[Bb]? = some (.cells #[.slice A b.length c] 22 (0, 0))) (hA : ∀ W', Below n₀ w W' → Kd.C (Kd.int .u8) W' A b.length b) (hok : BoxOk B w) :
    SeqStopsK F n Try.prog 35 #[.pointer (some ⟨Bs, 0, none⟩), .pointer (some ⟨Bb, 0, none⟩)] ln_enc (KpO n₀ B) (fun ys => ys = ln_from b en fr) (fun pre => pre <+: ln_from b en fr) (ln_from b en fr).length w := fun l J Jx W hW hJ hJx hY h0 =>
  ln_all1 F n h21 h22 hro hn l Bs Bb n₀ (KpO n₀ B) (BoxOk B) (fun h => h.below) (fun h _ _ => ⟨fun e => (h.below.block Bs hBs).trans e, fun e => (h.below.block Bb hBb).trans e⟩)
    (fun {X Y o} hok h hc => by
      obtain ⟨t0, v0, hB0, hown0⟩ := hok
      have hBlt := (Array.getElem?_eq_some_iff.1 hB0).1
      obtain ⟨v', _, _, h⟩ := h.keeps t0 v0 (((below_alloc (Below.refl _ _) _).block B hBlt).trans hB0)
      exact h _ _ (heap_alloc_new X _) hc (by omega) (by intro e; have := hown0 _ e; omega))
    (fun h => h.alloc _) (fun h k => h.kp k) A c b fr en hlen hc hft hen J Jx hY W hJ (Nat.le_trans hn0 hW.size)
    ((hW.block Bs (by omega)).trans hs) ((hW.block Bb (by omega)).trans hb) (fun W' h => hA W' ((hW.mono hn0).trans h)) (hok.of hW) h0
/-- what a round of Count keeps: all cells but its own variable -/
structure KpC (n₀ B : Nat) (W W' : World) : Prop where
  below : Below n₀ W W'
  size : W.heap.size ≤ W'.heap.size
  keeps : ∀ k o, W.heap[k]? = some o → o.isCells = true → k ≠ B → W'.heap[k]? = some o
theorem KpC.trans {n₀ B : Nat} {X Y Z : World} (h : KpC n₀ B X Y) (k : KpC n₀ B Y Z) : KpC n₀ B X Z :=
  ⟨h.below.trans k.below, Nat.le_trans h.size k.size, fun j o hj hc hB => k.keeps j o (h.keeps j o hj hc hB) hc hB⟩
theorem KpC.put {n₀ B : Nat} (W : World) (l : Nat) (o o' : Obj) (hn : n₀ ≤ l) (hl : W.heap[l]? = some o) (hc : o.isCells = false) : KpC n₀ B W (W.putObj l o') := by
  have hll := (Array.getElem?_eq_some_iff.1 hl).1
  refine ⟨(Below.refl n₀ W).grown (grownBy_putObj' W l o') (by omega) (fun k e => by cases e; exact hn), (grownBy_putObj' W l o').size, fun k q hk hq hB => ?_⟩
  rw [World.putObj_heap_other (by intro e; subst e; rw [hl] at hk; cases hk; rw [hc] at hq; cases hq)]; exact hk
theorem ln_stopsC (F : Fence) (n : Nat) (h21 : F.fn 35) (h22 : F.fn 36) (hro : F.round = none) (hn : 2 ≤ n) (B Bs Bb n₀ : Nat) (A : Option Addr) (c : Nat) (b : List Int) (fr en : Nat) (hlen : b.length ≤ 100000) (hc : b.length ≤ c) (hft : fr ≤ en) (hen : en ≤ b.length)
    (w : World) (hn0 : n₀ ≤ w.heap.size) (hBs : Bs ≠ B) (hBb : Bb ≠ B) (hBw : B < w.heap.size)
    (hs : w.heap[Bs]? = some (.cells #[.int .i64 (fr : Int), .int .i64 (en : Int)] 29 (0, 0))) (hb : w.heap[Bb]? = some (.cells #[.slice A b.length c] 22 (0, 0))) (hA : ∀ W', Below n₀ w W' → Kd.C (Kd.int .u8) W' A b.length b) :
    SeqStopsK F n Try.prog 35 #[.pointer (some ⟨Bs, 0, none⟩), .pointer (some ⟨Bb, 0, none⟩)] ln_enc (KpC n₀ B) (fun ys => ys = ln_from b en fr) (fun pre => pre <+: ln_from b en fr) (ln_from b en fr).length w := fun l J Jx W hW hJ hJx hY h0 =>
  ln_all1 F n h21 h22 hro hn l Bs Bb n₀ (KpC n₀ B) (fun W => B < W.heap.size) (fun h => h.below) (fun h _ hc => ⟨fun e => h.keeps _ _ e hc hBs, fun e => h.keeps _ _ e hc hBb⟩)
    (fun {X Y o} hok h hc => h.keeps _ _ (heap_alloc_new X _) hc (by omega))
    (fun h => by simp; omega) (fun h k => Nat.lt_of_lt_of_le h k.size) A c b fr en hlen hc hft hen J Jx hY W hJ (Nat.le_trans hn0 hW.size)
    ((hW.block Bs (Array.getElem?_eq_some_iff.1 hs).1).trans hs) ((hW.block Bb (Array.getElem?_eq_some_iff.1 hb).1).trans hb) (fun W' h => hA W' ((hW.mono hn0).trans h)) (Nat.lt_of_lt_of_le hBw hW.size) h0
set_option maxHeartbeats 1000000 in
theorem ln_allf (F : Fence) (n : Nat) (h17 : F.fn 24) (hro : F.round = none) (sv : Value) (hsv : ∃ a l c, sv = .slice a l c) (x y : Int) (w : World) :
    CallsIn F n Try.prog 24 #[sv, .agg #[.int .i64 x, .int .i64 y]] w fun e w' => e = .returned (.func (.func 35) #[] #[.pointer (some ⟨w.heap.size + 1, 0, none⟩), .pointer (some ⟨w.heap.size, 0, none⟩)]) ∧ w' = (w.alloc (.cells #[sv] 22)).alloc (.cells #[.int .i64 x, .int .i64 y] 29) := by
  obtain ⟨a, l, c, rfl⟩ := hsv
  refine callsIn_of_wp Try.func24 rfl h17 ?_ hro
  simp only [Try.ntmps24, List.size_toArray, List.length_cons, List.length_nil, Nat.reduceAdd, Nat.reduceSub, Array.replicate_succ, Array.replicate_zero, List.push_toArray, List.append_toArray, List.nil_append, List.cons_append]
  gi_wp2
  go_ret
  exact ⟨rfl, rfl⟩
theorem wpListIn_append_own_at' {F : Fence} {n : Nat} {P : Program} (w : World) {ops : Array Oper} {rest : List Oper} {o : Oper} {a : Act} {Q : Exit → Act → World → Prop}
    (hg : o.guard = none) (s x : Operand) (t : TypeId) (hop : o.op = Op.call { callee := Callee.builtin Builtin.append, args := #[s, x], argTypes := #[t, t] })
    (base : Nat) (e : TypeId) (i : TypeInfo) (z : Value) (size bytes : Nat) (h1 : P.underlying t = some (.slice e)) (h2 : P.info? e = some i) (h3 : i.zero = some z) (h4 : i.size = size) (h5 : i.bytes = bytes) (h6 : z.cells.size = size) (h7 : 0 < size)
    (v : Value) (k : Nat) (xs : List Value) (hs : a.eval s = v) (hown : w.ownsRow base e size v k xs) (ad : Addr) (m c : Nat) (news : List Value) (hx : a.eval x = .slice (some ad) m c) (hn : news.length = m * size)
    (hc : ∀ j u, news[j]? = some u → w.cell? (ad.add j) = some u) (h1c : ∀ u ∈ news, u.oneCell' = true) (b1 : k + m ≤ maxLen) (b2 : (k + m) * bytes ≤ 140737488355328) (b3 : base ≤ w.heap.size)
    (hK : ∀ v' w', w'.ownsRow base e size v' (k + m) (xs ++ news) → w.grownBy w' v.ownBlock → (v'.ownBlock = v.ownBlock ∨ v'.ownBlock = some w.heap.size) → wpListIn F n P ops Q rest (a.put o.dst v') w') :
    wpListIn F n P ops Q (o :: rest) a w := by
  refine wpListIn_plain hg fun K hK' => ?_
  obtain ⟨v', w', hrun, r1, r2, _, r3⟩ := run_append_own_at (P := P) w base t o.type e i z size bytes h1 h2 h3 h4 h5 h6 h7 v k xs hown ad m c news hn hc h1c b1 b2 b3
  unfold Oper.wpIn
  refine ⟨?_, ?_⟩
  · simp [Oper.about, hop, resolve, Target.leads, Sem.run_pure]
  · rw [Oper.semAt_plain F _ _ (by rw [hop]; intro c hc'; cases hc')]
    simp [execOp, hop, resolve, invoke, builtin, hs, hx, hrun, Result.andThen]
    exact hK' _ _ (hK v' w' r1 r2 r3)
def ln_cells (x : S40) : List Value := [.int .i64 x.f0, .int .i64 x.f1, .int .i64 x.f2]
theorem ln_cells_len (l : List S40) : (l.flatMap ln_cells).length = l.length * 3 := by
  induction l with
  | nil => rfl
  | cons x t ih => rw [List.flatMap_cons, List.length_append, ih, List.length_cons]; show 3 + _ = _; omega
theorem ln_cells_at : ∀ (l : List S40) (j : Nat) (x : S40), l[j]? = some x → ((l.flatMap ln_cells).drop (j * 3)).take 3 = ln_cells x
  | [], j, x, h => by simp at h
  | y :: t, 0, x, h => by
    obtain rfl : y = x := by simpa using h
    rfl
  | y :: t, j + 1, x, h => by
    rw [List.flatMap_cons, show (j + 1) * 3 = (ln_cells y).length + j * 3 by show _ = 3 + j * 3; omega, List.drop_length_add_append]
    exact ln_cells_at t j x (by simpa using h)
theorem ln_row {w : World} {base : Nat} {v : Value} {l : List S40} (h : w.ownsRow base 40 3 v l.length (l.flatMap ln_cells)) : Kd.R k40 40 w base (fun _ => True) v l :=
  ⟨fun _ _ => trivial, l.flatMap ln_cells, h, ⟨ln_cells_len l, fun j x hx => by
    have := ln_cells_at l j x hx
    show k40.M w base _ x (((l.flatMap ln_cells).drop (j * 3)).take 3)
    rw [this]; exact k40_mkM w base _ x⟩⟩
theorem infoL : (Try.prog.info? 40).map (fun i => (i.zero, i.size, i.bytes)) = some (some (.agg #[.int .i64 0, .int .i64 0, .int .i64 0]), 3, 24) := by kernel_rfl
end Go.Proofs.Ytckmfmfhhojmfaa.P
