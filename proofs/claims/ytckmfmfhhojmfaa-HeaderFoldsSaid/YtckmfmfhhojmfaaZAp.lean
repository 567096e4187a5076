import Derived.Test.YtckmfmfhhojmfaaZIt
namespace Go.Proofs.Ytckmfmfhhojmfaa.P
open Go.RowKit Go.Shelf Go.Proofs.YtckmfmfhhojmfaaW.PrintWords Go.Proofs.YtckmfmfhhojmfaaW.PrintLast Go.Proofs.YtckmfmfhhojmfaaW.PrintMore
attribute [-simp] Int.tmod_tmod_of_dvd
attribute [local go_sem] Oper.semAt_some
set_option linter.unusedVariables false
set_option linter.unusedSimpArgs false
structure Hold (p : Prop) : Prop where
  out : p
theorem KpO.alloc {n₀ B : Nat} {W : World} (h : n₀ ≤ W.heap.size) (o : Obj) : KpO n₀ B W (W.alloc o) := by
  refine ⟨(Below.refl n₀ W).alloc h o, by simp, fun t v hv => ⟨v, ((below_alloc (Below.refl _ _) o).block B (Array.getElem?_eq_some_iff.1 hv).1).trans hv, .inl rfl, fun k q hk _ _ _ => ((below_alloc (Below.refl _ _) o).block k (Array.getElem?_eq_some_iff.1 hk).1).trans hk⟩⟩
set_option maxRecDepth 100000 in
set_option maxHeartbeats 4000000 in
theorem ln_AppendSeq (F : Fence) (n : Nat) (h20 : F.fn 34) (h21 : F.fn 35) (h22 : F.fn 36) (hro : F.round = none) (hn : 4 ≤ n) (Bs Bb : Nat) (A : Option Addr) (c : Nat) (b : List Int) (fr en : Nat) (hlen : b.length ≤ 100000) (hc : b.length ≤ c) (hft : fr ≤ en) (hen : en ≤ b.length) (hN : (ln_from b en fr).length ≤ 100000)
    (w : World) (hBs : Bs < w.heap.size) (hBb : Bb < w.heap.size)
    (hs : w.heap[Bs]? = some (.cells #[.int .i64 (fr : Int), .int .i64 (en : Int)] 29 (0, 0))) (hb : w.heap[Bb]? = some (.cells #[.slice A b.length c] 22 (0, 0))) (hA : Kd.C (Kd.int .u8) w A b.length b) :
    CallsIn F n Try.prog 34 #[.slice none 0 0, .func (.func 35) #[] #[.pointer (some ⟨Bs, 0, none⟩), .pointer (some ⟨Bb, 0, none⟩)]] w fun e w' => ∃ v, e = .returned v ∧ Kd.R k40 40 w' w.heap.size (fun _ => True) v (ln_from b en fr) ∧ Below w.heap.size w w' := by
  have h1 : 1 ≤ n := by omega
  refine callsIn_of_wp_marks Try.func34 rfl h20 ?_ hro
  simp only [Try.ntmps34, List.size_toArray, List.length_cons, List.length_nil, Nat.reduceAdd, Nat.reduceSub, Array.replicate_succ, Array.replicate_zero, List.push_toArray, List.append_toArray, List.nil_append, List.cons_append]
  gi_wp2
  have hal := below_alloc (Below.refl w.heap.size w) (.cells #[.slice none 0 0] 37)
  have bB := Boxed.new w 37 (.slice none 0 0)
  have hstops := ln_stops F (n - 1) h21 h22 hro (by omega) w.heap.size Bs Bb w.heap.size A c b fr en hlen hc hft hen (w.alloc (.cells #[.slice none 0 0] 37)) (by simp) hBs hBb ((hal.block Bs hBs).trans hs) ((hal.block Bb hBb).trans hb) (fun W' h => Kd.C_below hA (hal.trans h)) ⟨37, _, bB, fun k hk => by simp [Value.ownBlock] at hk⟩
  have own0 : Own (fun (pre : List S40) W => ∃ v, Boxed W w.heap.size 37 v ∧ W.ownsRow w.heap.size 40 3 v pre.length (pre.flatMap ln_cells) ∧ True) := holdsRow_own w.heap.size w.heap.size 37 40 3 (fun pre : List S40 => pre.length) (fun pre => pre.flatMap ln_cells) (fun _ _ => True)
  refine wpIn_rangeFunc_ownH hro h1 (gf := 35) (lb := #[.pointer (some ⟨Bs, 0, none⟩), .pointer (some ⟨Bb, 0, none⟩)]) rfl h21 (enters_of Try.func35 (by kernel_rfl) rfl)
    hstops (fun h k => h.trans k) (fun W l o o' hl ho hc _ => KpO.put W l o o' (by simp at hl; omega) ho hc) (Below.refl _ _) (fun _ => rfl)
    (fun pre W => (∃ v, Boxed W w.heap.size 37 v ∧ W.ownsRow w.heap.size 40 3 v pre.length (pre.flatMap ln_cells) ∧ True) ∧ Below w.heap.size w W)
    (fun _ _ _ => False)
    (OwnFrom.and (Own.from own0 _) (ownFrom_below (Nat.le_refl _) (by simp)))
    (fun _ _ _ _ _ hs _ _ => hs)
    ⟨⟨.slice none 0 0, bB, World.ownsRow_nil _ _ _ _, trivial⟩, hal⟩
    (fun x a' W => ∃ Bx, W.heap[Bx]? = some (.cells #[.int .i64 x.f0, .int .i64 x.f1, .int .i64 x.f2] 40 (0, 0)) ∧ a' = { tmps := #[.slice none 0 0, .func (.func 35) #[] #[.pointer (some ⟨Bs, 0, none⟩), .pointer (some ⟨Bb, 0, none⟩)], .pointer (some ⟨w.heap.size, 0, none⟩), undef, .slice none 0 0, .pointer (some ⟨Bx, 0, none⟩), .func (.func 35) #[] #[.pointer (some ⟨Bs, 0, none⟩), .pointer (some ⟨Bb, 0, none⟩)], .agg #[.int .i64 x.f0, .int .i64 x.f1, .int .i64 x.f2], undef, undef, undef, undef, undef], defers := [] })
    ?hAx ?assign ?body ?done ?stop
  case hAx =>
    rintro x a' s X Y row ⟨Bx, hB, ha⟩ hg hrow
    refine ⟨Bx, (hg.block Bx (Array.getElem?_eq_some_iff.1 hB).1 ?_).trans hB, ha⟩
    intro e
    obtain ⟨_, o, ho, hc⟩ := hrow Bx e.symm
    rw [hB] at ho; cases ho; cases hc
  case assign =>
    rintro l pre x W K ⟨⟨v, hv, hrow, _⟩, hB⟩ hK
    dsimp only [ln_enc]
    gi_wp2
    exact hK _ _ ((KeepsOthers.alloc _ _).from _) (KpO.alloc hB.size _) ⟨⟨v, hv.alloc _, hrow.alloc _, trivial⟩, hB.alloc hB.size _⟩ ⟨W.heap.size, heap_alloc_new _ _, rfl⟩
  case body =>
    rintro l pre x a' W hl ⟨r, hr⟩ ⟨⟨v, hv, hrow, _⟩, hB⟩ ⟨Bx, hBx, rfl⟩ hlt
    have hle := hB.size
    have hvc := hv.cell
    have hvf := hv.frozen
    have hx0 := cell_of_row W Bx 0 _ _ _ hBx
    have hx1 := cell_of_row W Bx 1 _ _ _ hBx
    have hx2 := cell_of_row W Bx 2 _ _ _ hBx
    simp at hx0 hx1 hx2
    obtain ⟨i0, hi, hz0, hz1, hz2⟩ := info_parts infoL
    have HV := Aside0.mk hv
    have HROW := Aside0.mk hrow
    clear hv hrow
    have hnews : ∀ (j : Nat) (u : Value), (ln_cells x)[j]? = some u → (W.alloc (.cells #[.int .i64 x.f0, .int .i64 x.f1, .int .i64 x.f2] 40)).cell? ((⟨W.heap.size, 0, none⟩ : Addr).add j) = some u := by simpa [ln_cells] using World.news_of_block (cs := #[.int .i64 x.f0, .int .i64 x.f1, .int .i64 x.f2]) (t := 40) (fr := (0, 0)) (heap_alloc_new W (.cells #[.int .i64 x.f0, .int .i64 x.f1, .int .i64 x.f2] 40))
    gi_wp2_with (gi_at_builtin; apply Hold.out)
    refine Hold.mk ?_
    refine wpListIn_append_own_at' _ rfl (.tmp 8) (.tmp 10) 37 rfl w.heap.size 40 i0 (.agg #[.int .i64 0, .int .i64 0, .int .i64 0]) 3 24 Try.underlying37 hi hz0 hz1 hz2 rfl (by decide) v pre.length (pre.flatMap ln_cells) rfl (HROW.out.alloc _) ⟨W.heap.size, 0, none⟩ 1 1 (ln_cells x) rfl rfl hnews (by simp [ln_cells, Value.oneCell']) ?b1 ?b2 ?b3 ?_
    case b1 => simp only [maxLen]; omega
    case b2 => omega
    case b3 => simp; omega
    intro v' w1 hown' hgrow hat
    obtain ⟨g', cap', rfl⟩ := ownsRow_succ hown'
    obtain ⟨hv1, hv2, hr2, hk2, hb2⟩ := HV.out.appended (by decide) HROW.out hle (Nat.le_refl _) hown' hgrow
    have hc1 := hv1.cell
    have hf1 := hv1.frozen
    have HV2 := Aside0.mk hv2
    have HR2 := Aside0.mk hr2
    have HK2 := Aside0.mk hk2
    have HB2 := Aside0.mk hb2
    have HG := Aside0.mk hgrow
    have HAT := Aside0.mk hat
    have HO := Aside0.mk hown'
    clear hv1 hv2 hr2 hk2 hb2 hgrow hat hown'
    gi_wp2
    have hlen2 : (pre ++ [x]).length = pre.length + 1 := by simp
    have hfl : (pre ++ [x]).flatMap ln_cells = pre.flatMap ln_cells ++ ln_cells x := by simp
    refine ⟨HK2.out.from _, ?_, ⟨_, HV2.out, by rw [hlen2, hfl]; exact HR2.out, trivial⟩, hB.trans HB2.out⟩
    have hs1 : W.heap.size ≤ w1.heap.size := by have := HG.out.size; simp at this; omega
    have hg1 : g' < w1.heap.size := by
      rcases HO.out.2 with ⟨e, _⟩ | ⟨q, cap, cur, e, _, hq, _⟩
      · cases e
      · cases e; exact (Array.getElem?_eq_some_iff.1 hq).1
    refine ⟨HB2.out, by simpa using hs1, fun t u hu => ?_⟩
    have hu2 := hu.symm.trans HV.out
    injection hu2 with hu2
    injection hu2 with hu3 hu4
    obtain rfl : u = v := by simpa using hu3
    subst hu4
    refine ⟨_, HV2.out, ?_, fun k o hk hc hkB hkv => ?_⟩
    · rcases HAT.out with h | h
      · exact .inl h
      · refine .inr ⟨g', rfl, ?_, by simpa using hg1⟩
        have : g' = (W.alloc (.cells #[.int .i64 x.f0, .int .i64 x.f1, .int .i64 x.f2] 40)).heap.size := by simpa [Value.ownBlock] using h
        rw [this]; simp
    · have hkl := (Array.getElem?_eq_some_iff.1 hk).1
      have h1 := (HG.out.block k (by simp; omega) (fun e => hkv e.symm)).trans (((below_alloc (Below.refl _ _) _).block k hkl).trans hk)
      exact (heap_setCell_other _ _ k _ (fun e => hkB (by simpa using e))).trans h1
  case done =>
    rintro D ys W hD rfl ⟨⟨v, hv, hrow, _⟩, hB⟩ hK
    have hvc := hv.cell
    have HROW := Aside0.mk hrow
    clear hrow
    gi_wp2
    refine ⟨by simp, .inl ⟨_, _, rfl, run_takeDeferred hK, ?_⟩⟩
    exact ⟨_, results_tmp rfl _ _ _, v, rfl, ln_row (ownsRow_putObj HROW.out _ hK rfl), hB.trans (belowK_b (w := w) (Nat.le_refl _) W D _ _ (by simp at hD; omega) hK rfl rfl)⟩
  case stop =>
    rintro D c' pre W hD _ h _
    exact h.elim
set_option maxHeartbeats 1000000 in
theorem ln_Collect (F : Fence) (n : Nat) (h16 : F.fn 23) (h20 : F.fn 34) (h21 : F.fn 35) (h22 : F.fn 36) (hro : F.round = none) (hn : 5 ≤ n) (Bs Bb : Nat) (A : Option Addr) (c : Nat) (b : List Int) (fr en : Nat) (hlen : b.length ≤ 100000) (hc : b.length ≤ c) (hft : fr ≤ en) (hen : en ≤ b.length) (hN : (ln_from b en fr).length ≤ 100000)
    (w : World) (hBs : Bs < w.heap.size) (hBb : Bb < w.heap.size)
    (hs : w.heap[Bs]? = some (.cells #[.int .i64 (fr : Int), .int .i64 (en : Int)] 29 (0, 0))) (hb : w.heap[Bb]? = some (.cells #[.slice A b.length c] 22 (0, 0))) (hA : Kd.C (Kd.int .u8) w A b.length b) :
    CallsIn F n Try.prog 23 #[.func (.func 35) #[] #[.pointer (some ⟨Bs, 0, none⟩), .pointer (some ⟨Bb, 0, none⟩)]] w fun e w' => ∃ v, e = .returned v ∧ Kd.R k40 40 w' w.heap.size (fun _ => True) v (ln_from b en fr) ∧ Below w.heap.size w w' := by
  refine callsIn_of_wp Try.func23 rfl h16 ?_ hro
  simp only [Try.ntmps23, List.size_toArray, List.length_cons, List.length_nil, Nat.reduceAdd, Nat.reduceSub, Array.replicate_succ, Array.replicate_zero, List.push_toArray, List.append_toArray, List.nil_append, List.cons_append]
  gi_wp2_with (refine ⟨fun _ => by omega, ?_⟩; refine (ln_AppendSeq F (n - 1) h20 h21 h22 hro (by omega) Bs Bb A c b fr en hlen hc hft hen hN _ hBs hBb hs hb hA).mono ?_; rintro e w' ⟨v, rfl, hR, hB⟩; obtain ⟨Ao, co, rfl⟩ := Kd.R_slice hR; have HR := Aside0.mk hR; have HB := Aside0.mk hB; clear hR hB)
  go_ret
  exact ⟨_, rfl, HR.out, HB.out⟩
theorem ln_from_len (l : List Int) (en : Nat) : ∀ d at_, en - at_ ≤ d → (ln_from l en at_).length ≤ en - at_ := by
  intro d
  induction d with
  | zero => intro at_ h; rw [ln_from_end _ _ _ (by omega)]; simp
  | succ d ih =>
    intro at_ h
    by_cases hlt : at_ < en
    · have h1 := ln_nx_lt l en at_ hlt
      have h2 := ih (ln_nx l en at_).f2.toNat (by omega)
      rw [ln_from_step _ _ _ hlt, List.length_cons]; omega
    · rw [ln_from_end _ _ _ hlt]; simp
theorem ln_all_from (l : List Int) (en at_ : Nat) (h : en ≤ l.length) : ln_all l en l.length at_ = ln_from l en at_ := ln_all_fuel l en l.length at_ (by omega)
theorem ln_Within (F : Fence) (n : Nat) (h12 : F.fn 21) (hro : F.round = none) (x y : Int) (m : Nat) (w : World) :
    CallsIn F n Try.prog 21 #[.agg #[.int .i64 x, .int .i64 y], .int .i64 (m : Int)] w fun e w' => e = .returned (.bool (decide (0 ≤ x ∧ x ≤ y ∧ y ≤ (m : Int)))) ∧ Below w.heap.size w w' := by
  refine callsIn_of_wp Try.func21 rfl h12 ?_ hro
  simp only [Try.ntmps21, List.size_toArray, List.length_cons, List.length_nil, Nat.reduceAdd, Nat.reduceSub, Array.replicate_succ, Array.replicate_zero, List.push_toArray, List.append_toArray, List.nil_append, List.cons_append]
  have hb := below_alloc (Below.refl w.heap.size w) (.cells #[.int .i64 x, .int .i64 y] 29)
  by_cases h0 : 0 ≤ x
  · have b0 := decide_eq_true h0
    by_cases h1 : x ≤ y
    · have b1 := decide_eq_true h1
      by_cases h2 : y ≤ (m : Int)
      · have b2 := decide_eq_true h2
        gi_wp2
        go_ret
        exact ⟨by simp [h0, h1, h2], hb⟩
      · have b2 := decide_eq_false h2
        gi_wp2
        go_ret
        exact ⟨by simp [h0, h1, h2], hb⟩
    · have b1 := decide_eq_false h1
      gi_wp2
      go_ret
      exact ⟨by simp [h0, h1], hb⟩
  · have b0 := decide_eq_false h0
    gi_wp2
    go_ret
    exact ⟨by simp [h0], hb⟩
set_option maxHeartbeats 2000000 in
theorem ln_Of (F : Fence) (n : Nat) (h8 : F.fn 10) (h12 : F.fn 21) (h16 : F.fn 23) (h17 : F.fn 24) (h20 : F.fn 34) (h21 : F.fn 35) (h22 : F.fn 36) (hro : F.round = none) (hn : 7 ≤ n) (A : Option Addr) (c : Nat) (b : List Int) (x y : Int) (hlen : b.length ≤ 100000) (hc : b.length ≤ c)
    (w : World) (hA : Kd.C (Kd.int .u8) w A b.length b) :
    CallsIn F n Try.prog 10 #[.slice A b.length c, .agg #[.int .i64 x, .int .i64 y]] w fun e w' => ∃ v, e = .returned v ∧ Kd.R k40 40 w' w.heap.size (fun _ => True) v (if 0 ≤ x ∧ x ≤ y ∧ y ≤ (b.length : Int) then ln_from b y.toNat x.toNat else []) ∧ Below w.heap.size w w' := by
  refine callsIn_of_wp Try.func10 rfl h8 ?_ hro
  simp only [Try.ntmps10, List.size_toArray, List.length_cons, List.length_nil, Nat.reduceAdd, Nat.reduceSub, Array.replicate_succ, Array.replicate_zero, List.push_toArray, List.append_toArray, List.nil_append, List.cons_append]
  have hal := below_alloc (Below.refl w.heap.size w) (.cells #[.int .i64 x, .int .i64 y] 29)
  have hnew := heap_alloc_new w (.cells #[.int .i64 x, .int .i64 y] 29)
  by_cases hin : 0 ≤ x ∧ x ≤ y ∧ y ≤ (b.length : Int)
  · obtain ⟨fr, hfr⟩ : ∃ fr : Nat, x = (fr : Int) := ⟨x.toNat, by omega⟩
    obtain ⟨en, hen⟩ : ∃ en : Nat, y = (en : Int) := ⟨y.toNat, by omega⟩
    subst hfr hen
    have hdec : decide (0 ≤ (fr : Int) ∧ (fr : Int) ≤ (en : Int) ∧ (en : Int) ≤ (b.length : Int)) = true := decide_eq_true hin
    have hN : (ln_from b en fr).length ≤ 100000 := by have := ln_from_len b en (en - fr) fr (Nat.le_refl _); omega
    gi_wp2_with (first | (refine ⟨fun _ => by omega, ?_⟩; refine (ln_Within F (n - 1) h12 hro (fr : Int) (en : Int) b.length _).mono ?_; rw [hdec]; rintro e w2 ⟨rfl, hB2⟩; have hw2 := (hB2.block w.heap.size (by simp)).trans hnew; have hz0 := cell_of_row w2 w.heap.size 0 _ _ _ hw2; have hz1 := cell_of_row w2 w.heap.size 1 _ _ _ hw2; simp at hz0 hz1; have HB2 := Aside0.mk hB2; have HW2 := Aside0.mk hw2; clear hB2 hw2) | (refine ⟨fun _ => by omega, ?_⟩; refine (ln_allf F (n - 1) h17 hro (.slice A b.length c) ⟨_, _, _, rfl⟩ (fr : Int) (en : Int) _).mono ?_; rintro e w3 ⟨rfl, rfl⟩))
    refine ⟨fun _ => by omega, ?_⟩
    have s2 := HB2.out.size
    simp at s2
    have hB3 : Below w.heap.size w2 ((w2.alloc (.cells #[.slice A b.length c] 22)).alloc (.cells #[.int .i64 (fr : Int), .int .i64 (en : Int)] 29)) := ((Below.refl w.heap.size w2).alloc (by omega) _).alloc (by simp; omega) _
    have hC3 := Kd.C_below hA ((hal.trans (HB2.out.mono (by simp))).trans hB3)
    have hS3 := heap_alloc_new (w2.alloc (.cells #[.slice A b.length c] 22)) (.cells #[.int .i64 (fr : Int), .int .i64 (en : Int)] 29)
    rw [show (w2.alloc (.cells #[.slice A b.length c] 22)).heap.size = w2.heap.size + 1 by simp] at hS3
    refine (ln_Collect F (n - 1) h16 h20 h21 h22 hro (by omega) (w2.heap.size + 1) w2.heap.size A c b fr en hlen hc (by omega) (by omega) hN _ (by simp) (by simp; omega) hS3 (((below_alloc (Below.refl _ _) _).block w2.heap.size (by simp)).trans (heap_alloc_new w2 _)) hC3).mono ?_
    rintro e w4 ⟨v4, rfl, hR4, hB4⟩
    obtain ⟨Ao, co, rfl⟩ := Kd.R_slice hR4
    have HR4 := Aside0.mk hR4
    have HB4 := Aside0.mk hB4
    clear hR4 hB4
    gi_wp2
    go_ret
    refine ⟨_, rfl, ?_, ?_⟩
    · try rw [if_pos hin, Int.toNat_natCast, Int.toNat_natCast]
      exact Kd.R_lower HR4.out (by simp; omega)
    · exact (hal.trans (HB2.out.mono (by simp))).trans (hB3.trans (HB4.out.mono (by simp; omega)))
  · have hdec : decide (0 ≤ x ∧ x ≤ y ∧ y ≤ (b.length : Int)) = false := decide_eq_false hin
    gi_wp2_with (refine ⟨fun _ => by omega, ?_⟩; refine (ln_Within F (n - 1) h12 hro x y b.length _).mono ?_; rw [hdec]; rintro e w2 ⟨rfl, hB2⟩; have HB2 := Aside0.mk hB2; clear hB2)
    go_ret
    exact ⟨_, rfl, by (try rw [if_neg hin]); exact Kd.R_nil _ _ _ _ _, hal.trans (HB2.out.mono (by simp))⟩
end Go.Proofs.Ytckmfmfhhojmfaa.P
