-- Written by a program of this session (wip/tools/mk.sh) for this claim: it runs the kit's print with contracts of our own. Lean checks it.
import Derived.Test.YtmdhggiffdkmfaaPx0
import Derived.Test.YtmdhggiffdkmfaaZStr
import Derived.Test.YtmdhggiffdkmfaaPx1
import Derived.Test.YtmdhggiffdkmfaaPx2
import Derived.Test.YtmdhggiffdkmfaaPx3
import Derived.Test.YtmdhggiffdkmfaaPx5
namespace Go.Proofs.Ytmdhggiffdkmfaa.P
open Go.RowKit Go.Proofs.YtmdhggiffdkmfaaW.PrintWords Go.Proofs.YtmdhggiffdkmfaaW.PrintLast Go.Proofs.YtmdhggiffdkmfaaW.PrintMore
attribute [-simp] Int.tmod_tmod_of_dvd
attribute [local go_sem] max2_int min2_int max_two min_two max_three min_three max_four min_four   -- for this text's walks alone
set_option linter.unusedVariables false
set_option linter.unusedSimpArgs false

/-! ### letterboxlaw18_awake: function 7 -/
/-- what comes first of bytes that wait: an event, how many bytes it takes, whether there is one, and the place behind the last head that was told -/
def fr_l0 (K : Nat) : Nat → List Int → Int → Int → Int → Option (S33 × Int × Bool × Int)
  | 0, _, _, _, _ => none
  | d + 1, b, asked, at_, size =>
    (wire_ends.f K b at_).bind fun t =>
      if t.2.2 = false then
        (if wrap64 (wrap64 (size + (b.length : Int)) - at_) > 65536 then some (⟨3, []⟩, (b.length : Int), true, asked) else some (⟨3, []⟩, (b.length : Int), false, asked))
      else if wrap64 (size + wrap64 (t.2.1 - at_)) > 65536 then none
      else (wire_tail.f K t.1).bind fun u =>
        if u.2.2 = false then
          (if 0 ≤ wrap64 (at_ + (t.1.size : Int)) then (if wrap64 (at_ + (t.1.size : Int)) ≤ (b.length : Int) then some (⟨2, b.take (wrap64 (at_ + (t.1.size : Int))).toNat⟩, t.2.1, true, asked) else none) else none)
        else if u.1 > 67108864 then some (⟨3, []⟩, (b.length : Int), true, asked)
        else if u.2.1 = true ∧ t.2.1 = (b.length : Int) ∧ asked < t.2.1 then some (⟨1, []⟩, 0, true, t.2.1)
        else if wrap64 (t.2.1 + u.1) > (b.length : Int) then some (⟨0, []⟩, 0, false, asked)
        else fr_l0 K d b asked (wrap64 (t.2.1 + u.1)) (wrap64 (size + wrap64 (t.2.1 - at_)))
def fr_first (K : Nat) (b : List Int) (asked : Int) : Option (S33 × Int × Bool × Int) := fr_l0 K K b asked 0 0
/-- what a call on a framer leaves: all but its own block stays, and its cells are these -/
def FrPost (w w' : World) (g : Nat) (v : Value) (asked : Int) : Prop := KeepBut w w' g none ∧ w'.heap[g]? = some (.cells #[v, .int .i64 asked] 25 (0, 0)) ∧ ∀ lo, lo ≤ g → Below lo w w'
theorem FrPost.drew {w w' : World} {g : Nat} {v : Value} {a : Int} (h : FrPost w w' g v a) : FrPost w w'.drew g v a := ⟨h.1, h.2.1, fun lo hl => below_drew (h.2.2 lo hl)⟩
theorem fr_box {w2 : World} {B : Nat} (h : w2.heap[B]? = some (.cells #[Value.int IntKind.i64 0, Value.slice none 0 0] 33 (0, 0))) (x u : Value) : ((w2.setCell ⟨B, 0, none⟩ x).setCell ⟨B, 1, none⟩ u).heap[B]? = some (.cells #[x, u] 33 (0, 0)) := blk_put (blk_put h 0 x rfl) 1 u rfl
theorem fr_post {w w2 : World} {g : Nat} {v : Value} {asked : Int} (hB : Below w.heap.size w w2) (hg : w.heap[g]? = some (.cells #[v, .int .i64 asked] 25 (0, 0))) (x u : Value) : FrPost w ((w2.setCell ⟨w.heap.size, 0, none⟩ x).setCell ⟨w.heap.size, 1, none⟩ u) g v asked := by
  have lg := blk_lt hg
  refine ⟨keep_far (keep_far (KeepBut.of_below hB g none) (Nat.le_refl _) _) (Nat.le_refl _) _, ?_, fun lo h => ((hB.mono (by omega)).setCell (show lo ≤ w.heap.size by omega) _).setCell (show lo ≤ w.heap.size by omega) _⟩
  exact blk_far (blk_far ((hB.block _ lg).trans hg) (show g ≠ w.heap.size by omega) _) (show g ≠ w.heap.size by omega) _
theorem fr_post1 {w w2 : World} {g : Nat} {v : Value} {asked : Int} (n : Int) (hB : Below w.heap.size w w2) (hg : w.heap[g]? = some (.cells #[v, .int .i64 asked] 25 (0, 0))) (x u : Value) : FrPost w (((w2.setCell ⟨g, 1, none⟩ (.int .i64 n)).setCell ⟨w.heap.size, 0, none⟩ x).setCell ⟨w.heap.size, 1, none⟩ u) g v n := by
  have lg := blk_lt hg
  refine ⟨keep_far (keep_far (KeepBut.set_ (KeepBut.of_below hB g none) 1 _) (Nat.le_refl _) _) (Nat.le_refl _) _, ?_, fun lo h => (((hB.mono (by omega)).setCell (show lo ≤ g from h) _).setCell (show lo ≤ w.heap.size by omega) _).setCell (show lo ≤ w.heap.size by omega) _⟩
  exact blk_far (blk_far (blk_put ((hB.block _ lg).trans hg) 1 _ rfl) (show g ≠ w.heap.size by omega) _) (show g ≠ w.heap.size by omega) _
set_option maxHeartbeats 8000000 in
set_option maxRecDepth 100000 in
theorem fr_First (K : Nat) (g : Nat) (A : Option Addr) (c : Nat) (b : List Int) (asked : Int) (r1 : S33) (r2 : Int) (r3 : Bool) (r4 : Int) (w : World)
    (hg : w.heap[g]? = some (.cells #[.slice A b.length c, .int .i64 asked] 25 (0, 0))) (hb : Kd.C (Kd.int .u8) w A b.length b) (hc : b.length ≤ c) (hl : b.length ≤ 100000000)
    (h : fr_first K b asked = some (r1, r2, r3, r4)) :
    Calls Try.prog 18 #[.pointer (some ⟨g, 0, none⟩)] w fun e w' => ∃ v, e = .returned (.tuple #[.agg #[.int .i64 r1.f0, v], .int .i64 r2, .bool r3]) ∧ Kd.R (Kd.int .u8) 5 w' w.heap.size (fun _ => True) v r1.f1 ∧ FrPost w w' g (.slice A b.length c) r4 := by
  have hu33 := Try.underlying33
  have H := Aside0.mk (show fr_l0 K K b asked 0 0 = some (r1, r2, r3, r4) from h)
  clear h
  have lg := blk_lt hg
  have HC := Aside0.mk hb
  have HG := Aside0.mk hg
  clear hb hg
  go_enter Try.func18, Try.ntmps18
  go_wp2
  generalize hW0 : w.alloc (Obj.cells #[Value.int IntKind.i64 0, Value.slice none 0 0] 33) = W0
  have hbk : W0.heap[w.heap.size]? = some (.cells #[Value.int IntKind.i64 0, Value.slice none 0 0] 33 (0, 0)) := by subst hW0; exact heap_alloc_new _ _
  have hB0 : Below w.heap.size w W0 := by subst hW0; exact below_alloc (Below.refl _ _) _
  have hs0 : W0.heap.size = w.heap.size + 1 := by subst hW0; simp
  clear hW0
  have HB0 := Aside0.mk hB0
  have HBK := Aside0.mk hbk
  have HS := Aside0.mk hs0
  clear hB0 hs0 hbk
  go_loopg [5, 6] K (fun gk v5 v6 w' => ∃ (a s : Int), v5 = .int .i64 a ∧ v6 = .int .i64 s ∧ Aside0 (fr_l0 K gk b asked a s = some (r1, r2, r3, r4)) ∧ Aside0 (Below W0.heap.size W0 w'))
  case atStart => exact ⟨0, 0, rfl, rfl, H, ⟨Below.refl _ _⟩⟩
  case round =>
    clear H
    obtain ⟨a, s, rfl, rfl, HA, HB⟩ := hrel
    cases gk with
    | zero => exact absurd HA.out (by simp [fr_l0])
    | succ d =>
    have H := HA.out
    clear HA
    simp only [fr_l0] at H
    cases hE : wire_ends.f K b a with
    | none => rw [hE] at H; exact absurd H (by simp)
    | some t =>
    obtain ⟨text, next, is⟩ := t
    rw [hE, Option.bind_some] at H
    have hE' := Aside0.mk hE
    clear hE
    have bw := HB0.out.trans (HB.out.mono (by have := HS.out; omega))
    have GK := Aside0.mk ((bw.block _ (blk_lt HG.out)).trans HG.out)
    have c0 := blk_cell GK.out 0
    have c1 := blk_cell GK.out 1
    simp only [List.getElem?_toArray, List.getElem?_cons_zero, List.getElem?_cons_succ] at c0 c1
    have HC1 := Aside0.mk (Kd.C_below HC.out bw)
    have HBW := Aside0.mk bw
    clear bw
    cases is with
    | false =>
      simp only [if_true] at H
      go_wp2_with (go_at_call 32; refine (wire_ends.calls K A c b a text next false _ HC1.out hc hE'.out).mono ?_; rintro e w2 ⟨rfl, hB2⟩; have bk := ((HB.out.trans (hB2.mono HB.out.size)).block _ (blk_lt HBK.out)).trans HBK.out; have gk := (hB2.block _ (blk_lt GK.out)).trans GK.out; have d0 := blk_cell gk 0; have d1 := blk_cell gk 1; have x0 := blk_cell bk 0; have x1 := blk_cell bk 1; have f0 := blk_frozen bk 0; have f1 := blk_frozen bk 1; have g1 := blk_frozen gk 1; have HB2 := Aside0.mk (HBW.out.trans (hB2.mono HBW.out.size)); have BK := Aside0.mk bk; have GK2 := Aside0.mk gk; have HC2 := Aside0.mk (Kd.C_below HC1.out hB2); have HLB := Aside0.mk hB2; clear hB2 bk gk; simp only [List.getElem?_toArray, List.getElem?_cons_zero, List.getElem?_cons_succ] at d0 d1 x0 x1; clear c0 c1)
      by_cases hs : wrap64 (wrap64 (s + (b.length : Int)) - a) > 65536
      · rw [if_pos hs] at H
        have hsb : decide (wrap64 (wrap64 (s + (b.length : Int)) - a) > 65536) = true := decide_eq_true hs
        clear hs
        simp only [Option.some.injEq, Prod.mk.injEq] at H
        obtain ⟨rfl, rfl, rfl, rfl⟩ := H
        go_region
        go_wp2
        refine bodyPost_ret (results_ctt rfl _ _ w.heap.size 33 #[.int .i64 3, .slice none 0 0] (0, 0) _ rfl (fr_box BK.out _ _) Try.underlying33 rfl (by kernel_rfl)) rfl ?_
        exact ⟨_, rfl, Kd.R_nil _ _ _ _ _, (fr_post HB2.out HG.out _ _).drew⟩
      · rw [if_neg hs] at H
        have hsb : decide (wrap64 (wrap64 (s + (b.length : Int)) - a) > 65536) = false := decide_eq_false hs
        clear hs
        simp only [Option.some.injEq, Prod.mk.injEq] at H
        obtain ⟨rfl, rfl, rfl, rfl⟩ := H
        go_region
        go_wp2
        refine bodyPost_ret (results_ctt rfl _ _ w.heap.size 33 #[.int .i64 3, .slice none 0 0] (0, 0) _ rfl (fr_box BK.out _ _) Try.underlying33 rfl (by kernel_rfl)) rfl ?_
        exact ⟨_, rfl, Kd.R_nil _ _ _ _ _, (fr_post HB2.out HG.out _ _).drew⟩
    | true =>
      simp only [Bool.true_eq_false, if_false] at H
      by_cases hs : wrap64 (s + wrap64 (next - a)) > 65536
      · rw [if_pos hs] at H; exact absurd H (by simp)
      rw [if_neg hs] at H
      have hsb : decide (wrap64 (s + wrap64 (next - a)) > 65536) = false := decide_eq_false hs
      have hsb' : decide (65536 < wrap64 (s + wrap64 (next - a))) = false := decide_eq_false hs
      clear hs
      cases hT : wire_tail.f K text with
      | none => rw [hT] at H; exact absurd H (by simp)
      | some u =>
      obtain ⟨n, waits, more⟩ := u
      rw [hT, Option.bind_some] at H
      have HT := Aside0.mk hT
      clear hT
      cases more with
      | false =>
        simp only [if_true] at H
        by_cases h1 : 0 ≤ wrap64 (a + (text.size : Int))
        case neg => rw [if_neg h1] at H; exact absurd H (by simp)
        rw [if_pos h1] at H
        by_cases h2 : wrap64 (a + (text.size : Int)) ≤ (b.length : Int)
        case neg => rw [if_neg h2] at H; exact absurd H (by simp)
        rw [if_pos h2] at H
        simp only [Option.some.injEq, Prod.mk.injEq] at H
        obtain ⟨rfl, rfl, rfl, rfl⟩ := H
        obtain ⟨i0, hi0, _, hsz, _⟩ := info_parts info5
        have hcut := cut_to (P := Try.prog) 22 5 .i64 Try.underlying22 hi0 A b.length c (wrap64 (a + (text.size : Int))) h1 h2 hc
        obtain ⟨D, hD⟩ : ∃ D, D = b.take (wrap64 (a + (text.size : Int))).toNat := ⟨_, rfl⟩
        have hDl : D.length = (wrap64 (a + (text.size : Int))).toNat := by rw [hD, List.length_take]; omega
        rw [← hDl] at hcut
        have HDC := Aside0.mk (show D.length ≤ 100000000 by omega)
        have HDK := Aside0.mk (show ∀ W, Kd.C (Kd.int .u8) W A b.length b → Kd.C (Kd.int .u8) W A D.length D from fun W h => by rw [hD]; exact Kd.C_take h (by omega))
        clear h1 h2 hDl
        have HD := Aside0.mk hD
        clear hD
        go_wp2_with (first | (go_at_call 32; refine (wire_ends.calls K A c b a text next true _ HC1.out hc hE'.out).mono ?_; rintro e w2 ⟨rfl, hB2⟩; have bk := ((HB.out.trans (hB2.mono HB.out.size)).block _ (blk_lt HBK.out)).trans HBK.out; have gk := (hB2.block _ (blk_lt GK.out)).trans GK.out; have d0 := blk_cell gk 0; have d1 := blk_cell gk 1; have x0 := blk_cell bk 0; have x1 := blk_cell bk 1; have f0 := blk_frozen bk 0; have f1 := blk_frozen bk 1; have g1 := blk_frozen gk 1; have HB2 := Aside0.mk (HBW.out.trans (hB2.mono HBW.out.size)); have BK := Aside0.mk bk; have GK2 := Aside0.mk gk; have HC2 := Aside0.mk (Kd.C_below HC1.out hB2); have HLB := Aside0.mk hB2; clear hB2 bk gk; simp only [List.getElem?_toArray, List.getElem?_cons_zero, List.getElem?_cons_succ] at d0 d1 x0 x1; clear c0 c1) | (go_at_call 33; refine (wire_tail.calls K text n waits false _ HT.out).mono ?_; rintro e w3 ⟨rfl, ⟨nd, rfl⟩⟩))
        refine (wr_Clone A c D _ (HDK.out _ (Kd.C_drewN HC2.out nd)) HDC.out).mono ?_
        rintro e w4 ⟨v, rfl, hR4, hB4⟩
        obtain ⟨A4, c4, rfl⟩ := Kd.R_slice hR4
        have bk4 := (hB4.block w.heap.size (show w.heap.size < (w2.drewN nd).heap.size from blk_lt BK.out)).trans (show (w2.drewN nd).heap[w.heap.size]? = _ from BK.out)
        have y0 := blk_cell bk4 0
        have y1 := blk_cell bk4 1
        have e0 := blk_frozen bk4 0
        have e1 := blk_frozen bk4 1
        have HR4 := Aside0.mk hR4
        have BK4 := Aside0.mk bk4
        have HB4 := Aside0.mk ((pw_below_drewN HB2.out nd).trans (hB4.mono (show w.heap.size ≤ (w2.drewN nd).heap.size from HB2.out.size)))
        clear hR4 hB4 bk4
        simp only [List.getElem?_toArray, List.getElem?_cons_zero, List.getElem?_cons_succ] at y0 y1
        go_wp2
        refine bodyPost_ret (results_ctt rfl _ _ w.heap.size 33 #[.int .i64 2, .slice A4 D.length c4] (0, 0) _ rfl (fr_box BK4.out _ _) Try.underlying33 rfl (by kernel_rfl)) rfl ?_
        refine ⟨_, rfl, ?_, fr_post HB4.out HG.out _ _⟩
        have hs4 : w.heap.size < (w2.drewN nd).heap.size := blk_lt BK.out
        have q1 := Kd.R_far (Kd.R_bound HR4.out) (p := ⟨w.heap.size, 0, none⟩) (fun k hk => by have := hk.2.1; show k ≠ w.heap.size; omega) (.int .i64 2)
        have q2 := Kd.R_far q1 (p := ⟨w.heap.size, 1, none⟩) (fun k hk => by have := hk.2.1; show k ≠ w.heap.size; omega) (.slice A4 D.length c4)
        rw [← HD.out]
        exact Kd.R_mono (Kd.R_lower q2 (by omega)) (fun _ _ => trivial)
      | true =>
        simp only [Bool.true_eq_false, if_false] at H
        by_cases hn : n > 67108864
        · rw [if_pos hn] at H
          have hnb : decide (n > 67108864) = true := decide_eq_true hn
          have hnb' : decide (67108864 < n) = true := decide_eq_true hn
          clear hn
          simp only [Option.some.injEq, Prod.mk.injEq] at H
          obtain ⟨rfl, rfl, rfl, rfl⟩ := H
          go_wp2_with (first | (go_at_call 32; refine (wire_ends.calls K A c b a text next true _ HC1.out hc hE'.out).mono ?_; rintro e w2 ⟨rfl, hB2⟩; have bk := ((HB.out.trans (hB2.mono HB.out.size)).block _ (blk_lt HBK.out)).trans HBK.out; have gk := (hB2.block _ (blk_lt GK.out)).trans GK.out; have d0 := blk_cell gk 0; have d1 := blk_cell gk 1; have x0 := blk_cell bk 0; have x1 := blk_cell bk 1; have f0 := blk_frozen bk 0; have f1 := blk_frozen bk 1; have g1 := blk_frozen gk 1; have HB2 := Aside0.mk (HBW.out.trans (hB2.mono HBW.out.size)); have BK := Aside0.mk bk; have GK2 := Aside0.mk gk; have HC2 := Aside0.mk (Kd.C_below HC1.out hB2); have HLB := Aside0.mk hB2; clear hB2 bk gk; simp only [List.getElem?_toArray, List.getElem?_cons_zero, List.getElem?_cons_succ] at d0 d1 x0 x1; clear c0 c1) | (go_at_call 33; refine (wire_tail.calls K text n waits true _ HT.out).mono ?_; rintro e w3 ⟨rfl, ⟨nd, rfl⟩⟩))
          have d0' := (show (w2.drewN nd).cell? ⟨g, 0, none⟩ = _ from d0)
          go_region
          go_wp2
          refine bodyPost_ret (results_ctt rfl _ _ w.heap.size 33 #[.int .i64 3, .slice none 0 0] (0, 0) _ rfl (fr_box (show (w2.drewN nd).heap[w.heap.size]? = _ from BK.out) _ _) Try.underlying33 rfl (by kernel_rfl)) rfl ?_
          exact ⟨_, rfl, Kd.R_nil _ _ _ _ _, (fr_post (pw_below_drewN HB2.out nd) HG.out _ _).drew⟩
        rw [if_neg hn] at H
        have hnb : decide (n > 67108864) = false := decide_eq_false hn
        have hnb' : decide (67108864 < n) = false := decide_eq_false hn
        clear hn
        by_cases hq : waits = true ∧ next = (b.length : Int) ∧ asked < next
        · rw [if_pos hq] at H
          simp only [Option.some.injEq, Prod.mk.injEq] at H
          obtain ⟨rfl, rfl, rfl, rfl⟩ := H
          obtain ⟨rfl, hq1, hq2⟩ := hq
          have b1 : (next == (b.length : Int)) = true := beq_iff_eq.mpr hq1
          have b2 : decide (asked < next) = true := decide_eq_true hq2
          clear hq1 hq2
          go_wp2_with (first | (go_at_call 32; refine (wire_ends.calls K A c b a text next true _ HC1.out hc hE'.out).mono ?_; rintro e w2 ⟨rfl, hB2⟩; have bk := ((HB.out.trans (hB2.mono HB.out.size)).block _ (blk_lt HBK.out)).trans HBK.out; have gk := (hB2.block _ (blk_lt GK.out)).trans GK.out; have d0 := blk_cell gk 0; have d1 := blk_cell gk 1; have x0 := blk_cell bk 0; have x1 := blk_cell bk 1; have f0 := blk_frozen bk 0; have f1 := blk_frozen bk 1; have g1 := blk_frozen gk 1; have HB2 := Aside0.mk (HBW.out.trans (hB2.mono HBW.out.size)); have BK := Aside0.mk bk; have GK2 := Aside0.mk gk; have HC2 := Aside0.mk (Kd.C_below HC1.out hB2); have HLB := Aside0.mk hB2; clear hB2 bk gk; simp only [List.getElem?_toArray, List.getElem?_cons_zero, List.getElem?_cons_succ] at d0 d1 x0 x1; clear c0 c1) | (go_at_call 33; refine (wire_tail.calls K text n true true _ HT.out).mono ?_; rintro e w3 ⟨rfl, ⟨nd, rfl⟩⟩))
          refine bodyPost_ret (results_ctt rfl _ _ w.heap.size 33 #[.int .i64 1, .slice none 0 0] (0, 0) _ rfl (fr_box (blk_far (show (w2.drewN nd).heap[w.heap.size]? = _ from BK.out) (show w.heap.size ≠ g by omega) _) _ _) Try.underlying33 rfl (by kernel_rfl)) rfl ?_
          exact ⟨_, rfl, Kd.R_nil _ _ _ _ _, fr_post1 _ (pw_below_drewN HB2.out nd) HG.out _ _⟩
        · rw [if_neg hq] at H
          cases waits with
          | false =>
            clear hq
            by_cases ho : wrap64 (next + n) > (b.length : Int)
            · rw [if_pos ho] at H
              have hob : decide (wrap64 (next + n) > (b.length : Int)) = true := decide_eq_true ho
              clear ho
              simp only [Option.some.injEq, Prod.mk.injEq] at H
              obtain ⟨rfl, rfl, rfl, rfl⟩ := H
              go_wp2_with (first | (go_at_call 32; refine (wire_ends.calls K A c b a text next true _ HC1.out hc hE'.out).mono ?_; rintro e w2 ⟨rfl, hB2⟩; have bk := ((HB.out.trans (hB2.mono HB.out.size)).block _ (blk_lt HBK.out)).trans HBK.out; have gk := (hB2.block _ (blk_lt GK.out)).trans GK.out; have d0 := blk_cell gk 0; have d1 := blk_cell gk 1; have x0 := blk_cell bk 0; have x1 := blk_cell bk 1; have f0 := blk_frozen bk 0; have f1 := blk_frozen bk 1; have g1 := blk_frozen gk 1; have HB2 := Aside0.mk (HBW.out.trans (hB2.mono HBW.out.size)); have BK := Aside0.mk bk; have GK2 := Aside0.mk gk; have HC2 := Aside0.mk (Kd.C_below HC1.out hB2); have HLB := Aside0.mk hB2; clear hB2 bk gk; simp only [List.getElem?_toArray, List.getElem?_cons_zero, List.getElem?_cons_succ] at d0 d1 x0 x1; clear c0 c1) | (go_at_call 33; refine (wire_tail.calls K text n false true _ HT.out).mono ?_; rintro e w3 ⟨rfl, ⟨nd, rfl⟩⟩))
              refine bodyPost_ret (results_ctt rfl _ _ w.heap.size 33 #[.int .i64 0, .slice none 0 0] (0, 0) _ rfl (fr_box (show (w2.drewN nd).heap[w.heap.size]? = _ from BK.out) _ _) Try.underlying33 rfl (by kernel_rfl)) rfl ?_
              exact ⟨_, rfl, Kd.R_nil _ _ _ _ _, fr_post (pw_below_drewN HB2.out nd) HG.out _ _⟩
            · rw [if_neg ho] at H
              have hob : decide (wrap64 (next + n) > (b.length : Int)) = false := decide_eq_false ho
              clear ho
              have H' := Aside0.mk H
              clear H
              go_wp2_with (first | (go_at_call 32; refine (wire_ends.calls K A c b a text next true _ HC1.out hc hE'.out).mono ?_; rintro e w2 ⟨rfl, hB2⟩; have bk := ((HB.out.trans (hB2.mono HB.out.size)).block _ (blk_lt HBK.out)).trans HBK.out; have gk := (hB2.block _ (blk_lt GK.out)).trans GK.out; have d0 := blk_cell gk 0; have d1 := blk_cell gk 1; have x0 := blk_cell bk 0; have x1 := blk_cell bk 1; have f0 := blk_frozen bk 0; have f1 := blk_frozen bk 1; have g1 := blk_frozen gk 1; have HB2 := Aside0.mk (HBW.out.trans (hB2.mono HBW.out.size)); have BK := Aside0.mk bk; have GK2 := Aside0.mk gk; have HC2 := Aside0.mk (Kd.C_below HC1.out hB2); have HLB := Aside0.mk hB2; clear hB2 bk gk; simp only [List.getElem?_toArray, List.getElem?_cons_zero, List.getElem?_cons_succ] at d0 d1 x0 x1; clear c0 c1) | (go_at_call 33; refine (wire_tail.calls K text n false true _ HT.out).mono ?_; rintro e w3 ⟨rfl, ⟨nd, rfl⟩⟩))
              go_roundg d
              case measure => omega
              case rel => exact ⟨_, _, rfl, rfl, H', ⟨HB.out.trans (pw_below_drewN (HLB.out.mono HB.out.size) nd)⟩⟩
          | true =>
            by_cases hq1 : next = (b.length : Int)
            · have b1 : (next == (b.length : Int)) = true := beq_iff_eq.mpr hq1
              have b2 : decide (asked < next) = false := decide_eq_false (fun h => hq ⟨rfl, hq1, h⟩)
              clear hq hq1
              by_cases ho : wrap64 (next + n) > (b.length : Int)
              · rw [if_pos ho] at H
                have hob : decide (wrap64 (next + n) > (b.length : Int)) = true := decide_eq_true ho
                clear ho
                simp only [Option.some.injEq, Prod.mk.injEq] at H
                obtain ⟨rfl, rfl, rfl, rfl⟩ := H
                go_wp2_with (first | (go_at_call 32; refine (wire_ends.calls K A c b a text next true _ HC1.out hc hE'.out).mono ?_; rintro e w2 ⟨rfl, hB2⟩; have bk := ((HB.out.trans (hB2.mono HB.out.size)).block _ (blk_lt HBK.out)).trans HBK.out; have gk := (hB2.block _ (blk_lt GK.out)).trans GK.out; have d0 := blk_cell gk 0; have d1 := blk_cell gk 1; have x0 := blk_cell bk 0; have x1 := blk_cell bk 1; have f0 := blk_frozen bk 0; have f1 := blk_frozen bk 1; have g1 := blk_frozen gk 1; have HB2 := Aside0.mk (HBW.out.trans (hB2.mono HBW.out.size)); have BK := Aside0.mk bk; have GK2 := Aside0.mk gk; have HC2 := Aside0.mk (Kd.C_below HC1.out hB2); have HLB := Aside0.mk hB2; clear hB2 bk gk; simp only [List.getElem?_toArray, List.getElem?_cons_zero, List.getElem?_cons_succ] at d0 d1 x0 x1; clear c0 c1) | (go_at_call 33; refine (wire_tail.calls K text n true true _ HT.out).mono ?_; rintro e w3 ⟨rfl, ⟨nd, rfl⟩⟩))
                refine bodyPost_ret (results_ctt rfl _ _ w.heap.size 33 #[.int .i64 0, .slice none 0 0] (0, 0) _ rfl (fr_box (show (w2.drewN nd).heap[w.heap.size]? = _ from BK.out) _ _) Try.underlying33 rfl (by kernel_rfl)) rfl ?_
                exact ⟨_, rfl, Kd.R_nil _ _ _ _ _, fr_post (pw_below_drewN HB2.out nd) HG.out _ _⟩
              · rw [if_neg ho] at H
                have hob : decide (wrap64 (next + n) > (b.length : Int)) = false := decide_eq_false ho
                clear ho
                have H' := Aside0.mk H
                clear H
                go_wp2_with (first | (go_at_call 32; refine (wire_ends.calls K A c b a text next true _ HC1.out hc hE'.out).mono ?_; rintro e w2 ⟨rfl, hB2⟩; have bk := ((HB.out.trans (hB2.mono HB.out.size)).block _ (blk_lt HBK.out)).trans HBK.out; have gk := (hB2.block _ (blk_lt GK.out)).trans GK.out; have d0 := blk_cell gk 0; have d1 := blk_cell gk 1; have x0 := blk_cell bk 0; have x1 := blk_cell bk 1; have f0 := blk_frozen bk 0; have f1 := blk_frozen bk 1; have g1 := blk_frozen gk 1; have HB2 := Aside0.mk (HBW.out.trans (hB2.mono HBW.out.size)); have BK := Aside0.mk bk; have GK2 := Aside0.mk gk; have HC2 := Aside0.mk (Kd.C_below HC1.out hB2); have HLB := Aside0.mk hB2; clear hB2 bk gk; simp only [List.getElem?_toArray, List.getElem?_cons_zero, List.getElem?_cons_succ] at d0 d1 x0 x1; clear c0 c1) | (go_at_call 33; refine (wire_tail.calls K text n true true _ HT.out).mono ?_; rintro e w3 ⟨rfl, ⟨nd, rfl⟩⟩))
                go_roundg d
                case measure => omega
                case rel => exact ⟨_, _, rfl, rfl, H', ⟨HB.out.trans (pw_below_drewN (HLB.out.mono HB.out.size) nd)⟩⟩
            · have b1 : (next == (b.length : Int)) = false := beq_eq_false_iff_ne.mpr hq1
              clear hq hq1
              by_cases ho : wrap64 (next + n) > (b.length : Int)
              · rw [if_pos ho] at H
                have hob : decide (wrap64 (next + n) > (b.length : Int)) = true := decide_eq_true ho
                clear ho
                simp only [Option.some.injEq, Prod.mk.injEq] at H
                obtain ⟨rfl, rfl, rfl, rfl⟩ := H
                go_wp2_with (first | (go_at_call 32; refine (wire_ends.calls K A c b a text next true _ HC1.out hc hE'.out).mono ?_; rintro e w2 ⟨rfl, hB2⟩; have bk := ((HB.out.trans (hB2.mono HB.out.size)).block _ (blk_lt HBK.out)).trans HBK.out; have gk := (hB2.block _ (blk_lt GK.out)).trans GK.out; have d0 := blk_cell gk 0; have d1 := blk_cell gk 1; have x0 := blk_cell bk 0; have x1 := blk_cell bk 1; have f0 := blk_frozen bk 0; have f1 := blk_frozen bk 1; have g1 := blk_frozen gk 1; have HB2 := Aside0.mk (HBW.out.trans (hB2.mono HBW.out.size)); have BK := Aside0.mk bk; have GK2 := Aside0.mk gk; have HC2 := Aside0.mk (Kd.C_below HC1.out hB2); have HLB := Aside0.mk hB2; clear hB2 bk gk; simp only [List.getElem?_toArray, List.getElem?_cons_zero, List.getElem?_cons_succ] at d0 d1 x0 x1; clear c0 c1) | (go_at_call 33; refine (wire_tail.calls K text n true true _ HT.out).mono ?_; rintro e w3 ⟨rfl, ⟨nd, rfl⟩⟩))
                refine bodyPost_ret (results_ctt rfl _ _ w.heap.size 33 #[.int .i64 0, .slice none 0 0] (0, 0) _ rfl (fr_box (show (w2.drewN nd).heap[w.heap.size]? = _ from BK.out) _ _) Try.underlying33 rfl (by kernel_rfl)) rfl ?_
                exact ⟨_, rfl, Kd.R_nil _ _ _ _ _, fr_post (pw_below_drewN HB2.out nd) HG.out _ _⟩
              · rw [if_neg ho] at H
                have hob : decide (wrap64 (next + n) > (b.length : Int)) = false := decide_eq_false ho
                clear ho
                have H' := Aside0.mk H
                clear H
                go_wp2_with (first | (go_at_call 32; refine (wire_ends.calls K A c b a text next true _ HC1.out hc hE'.out).mono ?_; rintro e w2 ⟨rfl, hB2⟩; have bk := ((HB.out.trans (hB2.mono HB.out.size)).block _ (blk_lt HBK.out)).trans HBK.out; have gk := (hB2.block _ (blk_lt GK.out)).trans GK.out; have d0 := blk_cell gk 0; have d1 := blk_cell gk 1; have x0 := blk_cell bk 0; have x1 := blk_cell bk 1; have f0 := blk_frozen bk 0; have f1 := blk_frozen bk 1; have g1 := blk_frozen gk 1; have HB2 := Aside0.mk (HBW.out.trans (hB2.mono HBW.out.size)); have BK := Aside0.mk bk; have GK2 := Aside0.mk gk; have HC2 := Aside0.mk (Kd.C_below HC1.out hB2); have HLB := Aside0.mk hB2; clear hB2 bk gk; simp only [List.getElem?_toArray, List.getElem?_cons_zero, List.getElem?_cons_succ] at d0 d1 x0 x1; clear c0 c1) | (go_at_call 33; refine (wire_tail.calls K text n true true _ HT.out).mono ?_; rintro e w3 ⟨rfl, ⟨nd, rfl⟩⟩))
                go_roundg d
                case measure => omega
                case rel => exact ⟨_, _, rfl, rfl, H', ⟨HB.out.trans (pw_below_drewN (HLB.out.mono HB.out.size) nd)⟩⟩
theorem info33 : (Try.prog.info? 33).map (fun i => (i.zero, i.size, i.bytes)) = some (some (.agg #[(.int .i64 0), (.slice none 0 0)]), 2, 32) := by kernel_rfl
/-- what comes of bytes that wait: events, what waits then, and the place behind the last head that was told -/
def fd_l0 (K : Nat) : Nat → List Int → Int → List S33 → Option (List S33 × List Int × Int)
  | 0, _, _, _ => none
  | d + 1, b, asked, out =>
    if b.length ≤ 100000000 ∧ out.length ≤ 100000000 then
      (fr_first K b asked).bind fun t =>
        if t.2.2.1 = false then some (out, b, t.2.2.2)
        else if t.2.1 > 0 then (if t.2.1 ≤ (b.length : Int) then fd_l0 K d (b.drop t.2.1.toNat) 0 (out ++ [t.1]) else none)
        else fd_l0 K d b t.2.2.2 (out ++ [t.1])
    else none
def fd_f (K : Nat) (b : List Int) (asked : Int) (l : List Int) : Option (List S33 × List Int × Int) := if b.length + l.length ≤ 100000000 then fd_l0 K K (b ++ l) asked [] else none
/-- how a framer lies in memory: its block, its row -/
structure Fr (w : World) (base g : Nat) (v : Value) (b : List Int) (asked : Int) : Prop where
  blk : w.heap[g]? = some (.cells #[v, .int .i64 asked] 25 (0, 0))
  row : Kd.R (Kd.int .u8) 5 w base (fun k => k ≠ g) v b
theorem Fr.slice {w : World} {base g : Nat} {v : Value} {b : List Int} {asked : Int} (h : Fr w base g v b asked) : ∃ A c, v = .slice A b.length c ∧ b.length ≤ c ∧ Kd.C (Kd.int .u8) w A b.length b := Kd.R_reads h.row
/-- what stands in memory at the head of each round of Feed -/
structure FdI (w w' : World) (base g : Nat) (v0 v ve : Value) (b : List Int) (asked : Int) (out : List S33) : Prop where
  fr : Fr w' base g v b asked
  ev : Kd.R k33 33 w' w.heap.size (fun k => k ≠ g ∧ some k ≠ v.ownBlock) ve out
  keep : KeepBut w w' g v0.ownBlock
  bel : ∀ lo, lo ≤ g → lo ≤ base → lo ≤ w.heap.size → Below lo w w'
theorem keep_on {w w1 w2 : World} {g : Nat} {row row1 : Option Nat} (h : KeepBut w w1 g row) (k : KeepBut w1 w2 g row1) (hr : ∀ b, row1 = some b → w.heap.size ≤ b) : KeepBut w w2 g row :=
  ⟨Nat.le_trans h.1 k.1, fun i hi hg hn => by
    refine (k.2 i (Nat.lt_of_lt_of_le hi h.1) hg ?_).trans (h.2 i hi hg hn)
    intro e
    have := hr i e.symm
    omega⟩
section
variable {w W W1 : World} {base g : Nat} {v0 v ve : Value} {b : List Int} {asked : Int} {out : List S33}
theorem FdI.lt (h : FdI w W base g v0 v ve b asked out) : g < W.heap.size := blk_lt h.fr.blk
theorem FdI.after {asked1 : Int} (h : FdI w W base g v0 v ve b asked out) (hp : FrPost W W1 g v asked1) : FdI w W1 base g v0 v ve b asked1 out :=
  ⟨⟨hp.2.1, Kd.R_keep h.fr.row hp.1 (fun k hk => hk)⟩, Kd.R_keep h.ev hp.1 (fun k hk => hk.1), keep_on h.keep hp.1 (fun b e => by cases e), fun lo h1 h2 h3 => (h.bel lo h1 h2 h3).trans (hp.2.2 lo h1)⟩
theorem FdI.below (h : FdI w W base g v0 v ve b asked out) (hB : Below W.heap.size W W1) : FdI w W1 base g v0 v ve b asked out :=
  ⟨⟨(hB.block _ h.lt).trans h.fr.blk, Kd.R_below h.fr.row hB⟩, Kd.R_below h.ev hB, keep_on h.keep (KeepBut.of_below hB g none) (fun b e => by cases e), fun lo h1 h2 h3 => (h.bel lo h1 h2 h3).trans (hB.mono (by have := h.lt; omega))⟩
theorem FdI.append {ve1 : Value} {out1 : List S33} (h : FdI w W base g v0 v ve b asked out) (hr : Kd.R k33 33 W1 w.heap.size (fun k => k ≠ g ∧ some k ≠ v.ownBlock) ve1 out1) (hg : W.grownBy W1 ve.ownBlock) : FdI w W1 base g v0 v ve1 b asked out1 :=
  ⟨⟨(hg.block g h.lt (fun e => (h.ev.1 g e.symm).1 rfl)).trans h.fr.blk, Kd.R_over h.fr.row h.ev (fun q hq => by
      have : q = 5 := by simpa [Kd.int, Kd.scalar] using hq
      subst this; decide) hg⟩, hr, keep_on h.keep (KeepBut.of_grown hg g) (fun k e => Kd.R_base h.ev k e), fun lo h1 h2 h3 => pw_below_grown (h.bel lo h1 h2 h3) _ (by have := h.lt; omega) hg (fun k e => Nat.le_trans h3 (Kd.R_base h.ev k e))⟩
theorem FdI.clone {v5 : Value} {b5 : List Int} (h : FdI w W base g v0 v ve b asked out) (hb : base ≤ W.heap.size) (hB : Below W.heap.size W W1) (hr : Kd.R (Kd.int .u8) 5 W1 W.heap.size (fun _ => True) v5 b5) :
    FdI w ((W1.setCell ⟨g, 0, none⟩ v5).setCell ⟨g, 1, none⟩ (.int .i64 0)) base g v0 v5 ve b5 0 out := by
  have h1 := h.below hB
  have hgl := h.lt
  refine ⟨⟨blk_put (blk_put h1.fr.blk 0 _ rfl) 1 _ rfl, ?_⟩, ?_, (h1.keep.set_ 0 _).set_ 1 _, fun lo j1 j2 j3 => ((h1.bel lo j1 j2 j3).setCell (show lo ≤ g from j1) _).setCell (show lo ≤ g from j1) _⟩
  · have q1 := Kd.R_mono (Kd.R_bound hr) (ok' := fun k => k ≠ g) (fun k hk => by have := hk.2.1; omega)
    exact Kd.R_lower (Kd.R_far (Kd.R_far q1 (p := ⟨g, 0, none⟩) (fun k hk => hk) _) (p := ⟨g, 1, none⟩) (fun k hk => hk) _) hb
  · have q1 := Kd.R_mono (Kd.R_below (Kd.R_bound h.ev) hB) (ok' := fun k => k ≠ g ∧ some k ≠ v5.ownBlock) (fun k hk => ⟨hk.1.1, fun e => by
      have := Kd.R_base hr k e.symm
      have := hk.2.2.1
      omega⟩)
    exact Kd.R_far (Kd.R_far q1 (p := ⟨g, 0, none⟩) (fun k hk => hk.1) _) (p := ⟨g, 1, none⟩) (fun k hk => hk.1) _
end
theorem FdI.start {w W1 : World} {base g : Nat} {v0 vn : Value} {b bn : List Int} {asked : Int} (h : Fr w base g v0 b asked) (hr : Kd.R (Kd.int .u8) 5 W1 base (fun k => k ≠ g) vn bn) (hg : w.grownBy W1 v0.ownBlock) :
    FdI w (W1.setCell ⟨g, 0, none⟩ vn) base g v0 vn (.slice none 0 0) bn asked [] := by
  have hgl := blk_lt h.blk
  have hne : some g ≠ v0.ownBlock := fun e => h.row.1 g e.symm rfl
  exact ⟨⟨blk_put ((hg.block g hgl hne).trans h.blk) 0 _ rfl, Kd.R_far hr (p := ⟨g, 0, none⟩) (fun k hk => hk) _⟩, Kd.R_nil _ _ _ _ _, (KeepBut.of_grown hg g).set_ 0 _, fun lo j1 j2 j3 => (pw_below_grown (Below.refl lo w) _ j3 hg (fun k e => Nat.le_trans j2 (Kd.R_base h.row k e))).setCell (show lo ≤ g from j1) _⟩
theorem fr_newer {w W : World} {base g : Nat} {v0 v ve : Value} {b : List Int} {asked : Int} {out : List S33} (h : FdI w W base g v0 v ve b asked out) (k : Nat) (hk : W.heap.size ≤ k) : (k ≠ g ∧ some k ≠ v.ownBlock) ∧ some k ≠ ve.ownBlock := by
  have := h.lt
  refine ⟨⟨by omega, fun e => ?_⟩, fun e => ?_⟩
  · have := Kd.R_lt h.fr.row k e.symm; omega
  · have := Kd.R_lt h.ev k e.symm; omega
theorem fr_evM {w W W1 : World} {base g : Nat} {v0 v ve vB : Value} {b : List Int} {asked kd_ : Int} {out : List S33} {by_ : List Int} (h : FdI w W base g v0 v ve b asked out) (hR : Kd.R (Kd.int .u8) 5 W1 W.heap.size (fun _ => True) vB by_) (o : Obj) :
    k33.M (W1.alloc o) w.heap.size (fun k => W.heap.size ≤ k) (⟨kd_, by_⟩ : S33) [.int .i64 kd_, vB] :=
  k33_mkM _ _ _ (⟨kd_, by_⟩ : S33) (Kd.R_lower (Kd.R_mono (Kd.R_bound (Kd.R_alloc hR o)) (fun k hk => hk.2.1)) h.keep.1)
set_option maxHeartbeats 8000000 in
set_option maxRecDepth 100000 in
theorem fr_Feed (K g : Nat) (v0 : Value) (b : List Int) (asked : Int) (A : Option Addr) (c : Nat) (l : List Int) (evs : List S33) (b' : List Int) (asked' : Int) (w : World) (base : Nat)
    (hF : Fr w base g v0 b asked) (hbase : base ≤ w.heap.size) (hl : Kd.C (Kd.int .u8) w A l.length l) (h : fd_f K b asked l = some (evs, b', asked')) :
    Calls Try.prog 9 #[.pointer (some ⟨g, 0, none⟩), .slice A l.length c] w fun e w' => ∃ v' ve, e = .returned ve ∧ FdI w w' base g v0 v' ve b' asked' evs := by
  have hu33 := Try.underlying33
  unfold fd_f at h
  by_cases hz : b.length + l.length ≤ 100000000
  case neg => rw [if_neg hz] at h; exact absurd h (by simp)
  rw [if_pos hz] at h
  have H := Aside0.mk h
  clear h
  obtain ⟨A0, c0, rfl, hc0, hC0⟩ := hF.slice
  have lg := blk_lt hF.blk
  have d0 := blk_cell hF.blk 0
  have f0 := blk_frozen hF.blk 0
  simp only [List.getElem?_toArray, List.getElem?_cons_zero, List.getElem?_cons_succ] at d0
  have HF := Aside0.mk hF
  have HL := Aside0.mk hl
  clear hF hl hc0 hC0
  go_enter Try.func9, Try.ntmps9
  go_wp2_with ((with_reducible refine gate_builtin (b := .append) (xs := #[.tmp 15, .tmp 16]) rfl ?_); at_builtin; refine Kd.R_append_rows (Kd.int .u8) (w0 := w) base rfl (.tmp 15) (.tmp 16) 22 5 (.int .u8 0) 1 rfl Try.underlying22 infoB rfl (by decide) (by omega) (.slice A0 b.length c0) b l _ _ _ (fun k => k ≠ g) (fun _ => False) rfl rfl ?aO ?aR (fun _ _ h => h) (fun _ h => h.elim) ?aF ?aB ?aS ?aL ?_; (case aO => exact HF.out.row); (case aR => exact HL.out); (case aF => exact fun k hk => by omega); (case aB => exact Below.refl _ _); (case aS => exact hbase); (case aL => omega); intro vn w1 hon hbn hgn hatn; obtain ⟨An, cn, rfl⟩ := Kd.R_slice hon; have HI := Aside0.mk (FdI.start HF.out hon hgn); have dn := ((hgn.block g lg (fun e => HF.out.row.1 g e.symm rfl)).trans HF.out.blk); have e0 := blk_cell dn 0; have h0 := blk_frozen dn 0; clear hon hbn hgn hatn dn d0 f0; simp only [List.getElem?_toArray, List.getElem?_cons_zero, List.getElem?_cons_succ] at e0)
  have HI0 : Aside0 (FdI w (w1.setCell ⟨g, 0, none⟩ (.slice An (b.length + l.length) cn)) base g (.slice A0 b.length c0) (.slice An (b.length + l.length) cn) (.slice none 0 0) (b ++ l) asked []) := ⟨by have h := HI.out; simp only [List.length_append] at h; exact h⟩
  clear e0 h0 HI
  go_loopg [5] K (fun gk v5 w' => ∃ (v : Value) (b1 : List Int) (ask : Int) (out : List S33), Aside0 (fd_l0 K gk b1 ask out = some (evs, b', asked')) ∧ Aside0 (FdI w w' base g (.slice A0 b.length c0) v v5 b1 ask out))
  case atStart => exact ⟨_, _, _, _, H, HI0⟩
  case round =>
    clear H HI0
    obtain ⟨v, b1, ask, out, HA, HI⟩ := hrel
    cases gk with
    | zero => exact absurd HA.out (by simp [fd_l0])
    | succ d =>
    have H := HA.out
    clear HA
    simp only [fd_l0] at H
    by_cases hz1 : b1.length ≤ 100000000 ∧ out.length ≤ 100000000
    case neg => rw [if_neg hz1] at H; exact absurd H (by simp)
    rw [if_pos hz1] at H
    cases hE : fr_first K b1 ask with
    | none => rw [hE] at H; exact absurd H (by simp)
    | some t =>
    obtain ⟨⟨kd_, by_⟩, n, is, ask1⟩ := t
    rw [hE, Option.bind_some] at H
    obtain ⟨A1, c1, rfl, hc1, hC1⟩ := HI.out.fr.slice
    have HE := Aside0.mk hE
    have HC1 := Aside0.mk hC1
    have HK1 := Aside0.mk hc1
    have HZ := Aside0.mk hz1
    clear hE hC1 hc1 hz1
    cases is with
    | false =>
      simp only [if_true, Option.some.injEq, Prod.mk.injEq] at H
      obtain ⟨rfl, rfl, rfl⟩ := H
      go_wp2_with (go_at_call 18; refine (fr_First K g A1 c1 b1 ask ⟨kd_, by_⟩ n false ask1 _ HI.out.fr.blk HC1.out HK1.out HZ.out.1 HE.out).mono ?_; rintro e w2 ⟨vB, rfl, hR, hP⟩; obtain ⟨AB, cB, rfl⟩ := Kd.R_slice hR; have HR := Aside0.mk hR; have HP := Aside0.mk hP; clear hR hP)
      go_ret
      exact ⟨_, _, rfl, (HI.out.after HP.out).below (below_alloc (Below.refl _ _) _)⟩
    | true =>
      simp only [Bool.true_eq_false, if_false] at H
      by_cases hn : n > 0
      · rw [if_pos hn] at H
        have hnb : decide (n > 0) = true := decide_eq_true hn
        have hnb' : decide (0 < n) = true := decide_eq_true hn
        by_cases hm : n ≤ (b1.length : Int)
        case neg => rw [if_neg hm] at H; exact absurd H (by simp)
        rw [if_pos hm] at H
        obtain ⟨i0, hi0, _, hsz, _⟩ := info_parts info5
        have hcut := cut_from (P := Try.prog) 22 5 .i64 Try.underlying22 hi0 1 hsz A1 b1.length c1 n (by omega) hm
        obtain ⟨D, hD⟩ : ∃ D, D = b1.drop n.toNat := ⟨_, rfl⟩
        have hDl : D.length = b1.length - n.toNat := by rw [hD, List.length_drop]
        rw [← hDl] at hcut
        obtain ⟨A5, hA5⟩ : ∃ A5, A5 = (if c1 = n.toNat then A1 else A1.map (·.add (n.toNat * 1))) := ⟨_, rfl⟩
        rw [← hA5] at hcut
        have HD := Aside0.mk (show ∀ W, Kd.C (Kd.int .u8) W A1 b1.length b1 → Kd.C (Kd.int .u8) W A5 D.length D from fun W h => by rw [hD, hA5]; exact Kd.C_drop h (by omega) HK1.out)
        have HDL := Aside0.mk (show D.length ≤ 100000000 by have := HZ.out.1; omega)
        rw [← hD] at H
        have H' := Aside0.mk H
        clear H hn hm hD hDl hA5
        go_wp2_with (first | (go_at_call 18; refine (fr_First K g A1 c1 b1 ask ⟨kd_, by_⟩ n true ask1 _ HI.out.fr.blk HC1.out HK1.out HZ.out.1 HE.out).mono ?_; rintro e w2 ⟨vB, rfl, hR, hP⟩; obtain ⟨AB, cB, rfl⟩ := Kd.R_slice hR; have HR := Aside0.mk hR; have HP := Aside0.mk hP; clear hR hP) | ((with_reducible refine gate_builtin (b := .append) (xs := #[.tmp 29, .tmp 31]) rfl ?_); at_builtin; refine Kd.R_append k33 (w0 := w2.alloc (.cells #[.int .i64 kd_, .slice AB by_.length cB] 33)) w.heap.size rfl (.tmp 29) (.tmp 31) 28 33 (.agg #[(.int .i64 0), (.slice none 0 0)]) 32 rfl Try.underlying28 info33 rfl (by decide) (by omega) u5 out (⟨kd_, by_⟩ : S33) [.int .i64 kd_, .slice AB by_.length cB] (fun k => k ≠ g ∧ some k ≠ (Value.slice A1 b1.length c1).ownBlock) (fun k => wr.heap.size ≤ k) rfl (by first | (go_simp; done) | (go_simp; rfl)) ?aP ?aK ?aF ?aO ?aB ?aS ?aL ?_; (case aP => exact fr_evM HI.out HR.out _); (case aK => exact fun k hk => fr_newer HI.out k hk); (case aF => exact fun k hk => (fr_newer HI.out k (by have := HP.out.1.1; simp at hk; omega)).1); (case aO => exact ((HI.out.after HP.out).below (below_alloc (Below.refl _ _) _)).ev); (case aB => exact Below.refl _ _); (case aS => exact ((HI.out.after HP.out).below (below_alloc (Below.refl _ _) _)).keep.1); (case aL => have := HZ.out.2; omega); intro ve1 w3 hr3 hb3 hg3 hat3; obtain ⟨Ae, ce, rfl⟩ := Kd.R_slice hr3; have I3 := ((HI.out.after HP.out).below (below_alloc (Below.refl _ _) _)).append hr3 hg3; have z0 := blk_cell I3.fr.blk 0; have z1 := blk_cell I3.fr.blk 1; have y0 := blk_frozen I3.fr.blk 0; have y1 := blk_frozen I3.fr.blk 1; have HI3 := Aside0.mk I3; clear hr3 hb3 hg3 hat3 I3; simp only [List.getElem?_toArray, List.getElem?_cons_zero, List.getElem?_cons_succ] at z0 z1))
        refine (wr_Clone A5 (c1 - n.toNat) D _ (HD.out _ (Kd.R_reads' HI3.out.fr.row).2.2) HDL.out).mono ?_
        rintro e w4 ⟨v6, rfl, hR6, hB6⟩
        obtain ⟨A6, c6, rfl⟩ := Kd.R_slice hR6
        have I4 := HI3.out.below hB6
        have I5 := HI3.out.clone (Nat.le_trans hbase HI3.out.keep.1) hB6 hR6
        have q0 := blk_cell I4.fr.blk 0
        have q1 := blk_cell I4.fr.blk 1
        have p0 := blk_frozen I4.fr.blk 0
        have p1 := blk_frozen I4.fr.blk 1
        simp only [List.length_append, List.length_cons, List.length_nil, Nat.zero_add] at I5
        have HI5 := Aside0.mk I5
        clear I4 I5 hR6 hB6 z0 z1 y0 y1
        simp only [List.getElem?_toArray, List.getElem?_cons_zero, List.getElem?_cons_succ] at q0 q1
        go_wp2
        go_roundg d
        case measure => omega
        case rel => exact ⟨_, _, _, _, H', HI5⟩
      · rw [if_neg hn] at H
        have hnb : decide (n > 0) = false := decide_eq_false hn
        have hnb' : decide (0 < n) = false := decide_eq_false hn
        have H' := Aside0.mk H
        clear H hn
        go_wp2_with (first | (go_at_call 18; refine (fr_First K g A1 c1 b1 ask ⟨kd_, by_⟩ n true ask1 _ HI.out.fr.blk HC1.out HK1.out HZ.out.1 HE.out).mono ?_; rintro e w2 ⟨vB, rfl, hR, hP⟩; obtain ⟨AB, cB, rfl⟩ := Kd.R_slice hR; have HR := Aside0.mk hR; have HP := Aside0.mk hP; clear hR hP) | ((with_reducible refine gate_builtin (b := .append) (xs := #[.tmp 29, .tmp 31]) rfl ?_); at_builtin; refine Kd.R_append k33 (w0 := w2.alloc (.cells #[.int .i64 kd_, .slice AB by_.length cB] 33)) w.heap.size rfl (.tmp 29) (.tmp 31) 28 33 (.agg #[(.int .i64 0), (.slice none 0 0)]) 32 rfl Try.underlying28 info33 rfl (by decide) (by omega) u5 out (⟨kd_, by_⟩ : S33) [.int .i64 kd_, .slice AB by_.length cB] (fun k => k ≠ g ∧ some k ≠ (Value.slice A1 b1.length c1).ownBlock) (fun k => wr.heap.size ≤ k) rfl (by first | (go_simp; done) | (go_simp; rfl)) ?aP ?aK ?aF ?aO ?aB ?aS ?aL ?_; (case aP => exact fr_evM HI.out HR.out _); (case aK => exact fun k hk => fr_newer HI.out k hk); (case aF => exact fun k hk => (fr_newer HI.out k (by have := HP.out.1.1; simp at hk; omega)).1); (case aO => exact ((HI.out.after HP.out).below (below_alloc (Below.refl _ _) _)).ev); (case aB => exact Below.refl _ _); (case aS => exact ((HI.out.after HP.out).below (below_alloc (Below.refl _ _) _)).keep.1); (case aL => have := HZ.out.2; omega); intro ve1 w3 hr3 hb3 hg3 hat3; obtain ⟨Ae, ce, rfl⟩ := Kd.R_slice hr3; have I3 := ((HI.out.after HP.out).below (below_alloc (Below.refl _ _) _)).append hr3 hg3; have z0 := blk_cell I3.fr.blk 0; have z1 := blk_cell I3.fr.blk 1; have y0 := blk_frozen I3.fr.blk 0; have y1 := blk_frozen I3.fr.blk 1; have HI3 := Aside0.mk I3; clear hr3 hb3 hg3 hat3 I3; simp only [List.getElem?_toArray, List.getElem?_cons_zero, List.getElem?_cons_succ] at z0 z1))
        have I5 := HI3.out
        simp only [List.length_append, List.length_cons, List.length_nil, Nat.zero_add] at I5
        have HI5 := Aside0.mk I5
        clear I5
        go_roundg d
        case measure => omega
        case rel => exact ⟨_, _, _, _, H', HI5⟩
theorem fr_Left (g : Nat) (v : Value) (b : List Int) (asked : Int) (w : World) (base : Nat) (hF : Fr w base g v b asked) :
    Calls Try.prog 10 #[.pointer (some ⟨g, 0, none⟩)] w fun e w' => e = .returned (.int .i64 (b.length : Int)) ∧ w' = w := by
  obtain ⟨A0, c0, rfl, hc0, hC0⟩ := hF.slice
  have d0 := blk_cell hF.blk 0
  simp only [List.getElem?_toArray, List.getElem?_cons_zero, List.getElem?_cons_succ] at d0
  clear hF hc0 hC0
  go_enter Try.func10, Try.ntmps10
  go_wp2
  go_ret
  exact ⟨rfl, rfl⟩
def fr_l1 : List Int := [97, 32, 123, 49, 125, 13, 10]
def fr_l2 : List Int := [98, 32, 99, 13, 10]
def fr_l3 : List Int := [97, 32, 123, 49, 125, 13, 10, 98, 32, 40, 66, 79, 68, 89, 91, 72, 69, 65, 68, 69, 82, 32, 40, 120, 41, 93, 60, 48, 62, 32, 34, 113, 34, 41]
theorem fd_one : fd_f 30 [] 0 fr_l1 = some ([⟨1, []⟩], fr_l1, 7) := by kernel_rfl
theorem fd_two : fd_f 30 fr_l1 7 fr_l2 = some ([⟨2, [97, 32, 123, 49, 125, 13, 10, 98, 32, 99]⟩], [], 0) := by kernel_rfl
def fr_toks : List S43 := [⟨1, ⟨#[97]⟩⟩, ⟨5, ⟨#[]⟩⟩, ⟨2, ⟨#[98]⟩⟩, ⟨5, ⟨#[]⟩⟩, ⟨3, ⟨#[]⟩⟩, ⟨1, ⟨#[66, 79, 68, 89, 91, 72, 69, 65, 68, 69, 82, 32, 40, 120, 41, 93, 60, 48, 62]⟩⟩, ⟨5, ⟨#[]⟩⟩, ⟨2, ⟨#[113]⟩⟩, ⟨4, ⟨#[]⟩⟩]
theorem fr_tok : wire_Tokens.f 60 fr_l3 = some (fr_toks, 0) := by kernel_rfl
theorem fr_cell {α : Type} {d : Kd α} {e base : Nat} {w : World} {ok : Nat → Prop} {A : Option Addr} {n c : Nat} {xs : List α} (h : d.R e w base ok (.slice A n c) xs) (hp : 0 < xs.length) : ∃ g, A = some ⟨g, 0, none⟩ := by
  obtain ⟨g, cap, e, _⟩ := Kd.R_form h hp
  cases e
  exact ⟨g, rfl⟩
set_option maxHeartbeats 8000000 in
set_option maxRecDepth 100000 in
theorem fr_awake (w : World) : Calls Try.prog 7 #[] w fun e w' => e = .returned (.bool true) ∧ Below w.heap.size w w' := by
  have kc := fun (w : World) (C : Array Value) (n c : Nat) => Lib.run_convert_bytes_const (P := Try.prog) w 22 5 C n c Try.underlying22 Try.underlying5
  have kc1 : ∀ (X : Obj) (C : Array Value) (n c : Nat), (convert 22 22 (.slice (some ⟨w.heap.size + 1, 0, none⟩) n c)).run Try.prog ((w.alloc X).alloc (.cells C 5)) = .ok (.slice (some ⟨w.heap.size + 1, 0, none⟩) n c) ((w.alloc X).alloc (.cells C 5 (C.size, C.size + 1))) := fun X C n c => by
    have h := kc (w.alloc X) C n c
    rwa [show (w.alloc X).heap.size = w.heap.size + 1 by simp] at h
  go_enter Try.func7, Try.ntmps7
  go_wp2_with fail
  generalize hWa : World.alloc (World.alloc w _) _ = Wa
  have sa : Wa.heap.size = w.heap.size + 2 := by subst hWa; simp
  have F0 : Fr Wa w.heap.size w.heap.size (.slice none 0 0) [] 0 := ⟨by subst hWa; exact blk_alloc (heap_alloc_new _ _) _, Kd.R_nil _ _ _ _ _⟩
  have C0 : Kd.C (Kd.int .u8) Wa (some ⟨w.heap.size + 1, 0, none⟩) fr_l1.length fr_l1 := Go.Proofs.Ytmdhggiffdkmfaa.Aids.const_C (t := 5) (fr := (7, 8)) fr_l1 (by decide) (by
    subst hWa
    have h := heap_alloc_new (w.alloc (.cells #[Value.slice none 0 0, Value.int IntKind.i64 0] 25)) (.cells (fr_l1.map (Value.int .u8)).toArray 5 (7, 8))
    rwa [show (w.alloc (.cells #[Value.slice none 0 0, Value.int IntKind.i64 0] 25)).heap.size = w.heap.size + 1 by simp] at h)
  have B0 : Below w.heap.size w Wa := by subst hWa; exact below_alloc (below_alloc (Below.refl _ _) _) _
  clear hWa
  refine (fr_Feed 30 w.heap.size (.slice none 0 0) [] 0 (some ⟨w.heap.size + 1, 0, none⟩) 7 fr_l1 _ _ _ Wa w.heap.size F0 (by omega) C0 fd_one).mono ?_
  rintro e w1 ⟨v1, ve1, rfl, I1⟩
  obtain ⟨Ae1, ce1, rfl⟩ := Kd.R_slice I1.ev
  have HI1 := Aside0.mk I1
  have HB0 := Aside0.mk B0
  clear F0 C0 I1 B0 kc1
  go_wp2_with fail
  have J1 := HI1.out.below (W1 := w1.alloc (.cells (fr_l2.map (Value.int .u8)).toArray 5 (5, 6))) (below_alloc (Below.refl _ _) _)
  refine (fr_Feed 30 w.heap.size v1 fr_l1 7 (some ⟨w1.heap.size, 0, none⟩) 5 fr_l2 _ _ _ (w1.alloc (.cells (fr_l2.map (Value.int .u8)).toArray 5 (5, 6))) w.heap.size J1.fr (by have := J1.keep.1; omega) (Go.Proofs.Ytmdhggiffdkmfaa.Aids.const_C (t := 5) (fr := (5, 6)) fr_l2 (by decide) (heap_alloc_new _ _)) fd_two).mono ?_
  rintro e w2 ⟨v2, ve2, rfl, I2⟩
  obtain ⟨Ae2, ce2, rfl⟩ := Kd.R_slice I2.ev
  have E1 := Aside0.mk (Kd.R_step J1.ev (fun k ho hlt => I2.keep.2 k hlt ho.1 ho.2))
  have HB2 := Aside0.mk ((HB0.out.trans (J1.bel w.heap.size (Nat.le_refl _) (Nat.le_refl _) (by omega))).trans (I2.bel w.heap.size (Nat.le_refl _) (Nat.le_refl _) (by have := J1.keep.1; omega)))
  have HI2 := Aside0.mk I2
  clear I2 J1 HI1
  go_wp2_with fail
  refine (wire_Tokens.calls 60 (some ⟨w2.heap.size, 0, none⟩) 34 fr_l3 fr_toks 0 (w2.alloc (.cells (fr_l3.map (Value.int .u8)).toArray 5 (34, 35))) (Go.Proofs.Ytmdhggiffdkmfaa.Aids.const_C (t := 5) (fr := (34, 35)) fr_l3 (by decide) (heap_alloc_new _ _)) (by decide) fr_tok).mono ?_
  rintro e w3 ⟨v3, rfl, hR3, hB3⟩
  obtain ⟨A3, c3, rfl⟩ := Kd.R_slice hR3
  have b23 : Below w2.heap.size w2 w3 := (below_alloc (Below.refl _ _) _).trans (hB3.mono (by simp))
  have HB3 := Aside0.mk (HB2.out.trans (b23.mono HB2.out.size))
  have r1 := Kd.R_below E1.out b23
  have r2 := Kd.R_below HI2.out.ev b23
  obtain ⟨g1, rfl⟩ := fr_cell r1 (by decide)
  obtain ⟨g2, rfl⟩ := fr_cell r2 (by decide)
  obtain ⟨g3, rfl⟩ := fr_cell hR3 (by decide)
  obtain ⟨_, _, _, e1, k1, _⟩ := at_T33 (Kd.R_reads' r1).2.2 0 (by decide) (by decide)
  cases e1
  obtain ⟨_, Ab, cb, e2, k2, k2b, hlb, hcb⟩ := at_T33 (Kd.R_reads' r2).2.2 0 (by decide) (by decide)
  cases e2
  have hcv : (convert 22 9 (.slice Ab 10 cb)).run Try.prog w3 = .ok (.string ⟨#[97, 32, 123, 49, 125, 13, 10, 98, 32, 99]⟩) w3 := Kd.C_string (P := Try.prog) (src := 22) (dst := 9) (c := cb) Try.underlying22 Try.underlying5 Try.underlying9 hcb
  obtain ⟨_, e5, _, k5⟩ := at_T43 (Kd.R_reads' hR3).2.2 5 (by decide) (by decide)
  cases e5
  obtain ⟨_, e7, _, k7⟩ := at_T43 (Kd.R_reads' hR3).2.2 7 (by decide) (by decide)
  cases e7
  replace k1 : w3.cell? ⟨g1, 0, none⟩ = some (.int .i64 1) := k1
  replace k2 : w3.cell? ⟨g2, 0, none⟩ = some (.int .i64 2) := k2
  replace k2b : w3.cell? ⟨g2, 1, none⟩ = some (.slice Ab 10 cb) := k2b
  replace k5 : w3.cell? ⟨g3, 11, none⟩ = some (.string ⟨#[66, 79, 68, 89, 91, 72, 69, 65, 68, 69, 82, 32, 40, 120, 41, 93, 60, 48, 62]⟩) := k5
  replace k7 : w3.cell? ⟨g3, 15, none⟩ = some (.string ⟨#[113]⟩) := k7
  have s5 : wire_NString.f 60 ⟨#[]⟩ false = some ⟨#[78, 73, 76]⟩ := by kernel_rfl
  have s6 : wire_String.f 60 ⟨#[97, 34]⟩ = some ⟨#[34, 97, 92, 34, 34]⟩ := by kernel_rfl
  have S5 := Aside0.mk s5
  have S6 := Aside0.mk s6
  clear s5 s6 r1 r2 hR3 hB3 b23 hcb hlb E1 HI2
  go_wp2_with (first | (go_at_call 16; refine (wire_NString.calls 60 ⟨#[]⟩ false _ _ S5.out).mono ?_; rintro e w4 ⟨rfl, hB4⟩; have HB4 := Aside0.mk hB4; clear hB4) | (go_at_call 12; refine (wire_String.calls 60 ⟨#[97, 34]⟩ _ _ S6.out).mono ?_; rintro e w5 ⟨rfl, hB5⟩; have HB5 := Aside0.mk hB5; clear hB5))
  go_ret
  exact ⟨rfl, (HB3.out.trans (HB4.out.mono HB3.out.size)).trans (HB5.out.mono (Nat.le_trans HB3.out.size HB4.out.size))⟩
def letterboxlaw18_awake.f : Option Bool := some true
theorem letterboxlaw18_awake.calls (r : Bool) (w : World) (h : letterboxlaw18_awake.f = some r) :
    Calls Try.prog 7 #[] w fun e w' => e = .returned (.bool r) ∧ Below w.heap.size w w' := by
  obtain rfl := Option.some.inj h
  exact fr_awake w

/-! ### letterboxlaw18_commands: function 8 -/
def letterboxlaw18_commands.l0 : Nat → List (S33) → ByteArray → Int → Option (ByteArray × Bool)
  | 0, _, _, _ => none
  | k + 1, x0, x4, x5 => if x5 < (x0.length : Int) then (if 0 ≤ x5 then (if ((rd_T33 x0 x5).f0) = 3 then (some ((⟨#[]⟩ : ByteArray), false)) else (if ((rd_T33 x0 x5).f0) = 2 then (if (strOfNums ((rd_T33 x0 x5).f1)).size + 2 ≤ 9223372036854775807 then (if x4.size + ((strOfNums ((rd_T33 x0 x5).f1)) ++ (⟨#[0, 10]⟩ : ByteArray)).size ≤ 9223372036854775807 then (letterboxlaw18_commands.l0 k x0 (x4 ++ ((strOfNums ((rd_T33 x0 x5).f1)) ++ (⟨#[0, 10]⟩ : ByteArray))) (wrap64 (x5 + 1))) else (none)) else (none)) else (letterboxlaw18_commands.l0 k x0 x4 (wrap64 (x5 + 1))))) else (none)) else (some (x4, true))
def letterboxlaw18_commands.f (k : Nat) (l0 : List (S33)) : Option (ByteArray × Bool) := letterboxlaw18_commands.l0 k l0 (⟨#[]⟩ : ByteArray) 0
theorem letterboxlaw18_commands.mono_l : ∀ k, (∀ y0 y1 y2, LeO (letterboxlaw18_commands.l0 k y0 y1 y2) (letterboxlaw18_commands.l0 (k + 1) y0 y1 y2))
  | 0 => fun _ _ _ r h => by simp [letterboxlaw18_commands.l0] at h
  | k + 1 => by
    have ih0 := letterboxlaw18_commands.mono_l k
    · intro y0 y1 y2
      unfold letterboxlaw18_commands.l0
      repeat' first
      | (with_reducible exact ih0 _ _ _)
      | (with_reducible exact LeO.refl _)
      | (with_reducible exact LeO.none _)
      | (with_reducible refine LeO.ite ?_ ?_)
      | (with_reducible refine LeO.bind ?_ (fun _ => ?_))
      | exact ih0 _ _ _
      | exact LeO.none _
      | refine LeO.ite ?_ ?_
      | refine LeO.bind ?_ (fun _ => ?_)
theorem letterboxlaw18_commands.mono : ∀ a0 k, LeO (letterboxlaw18_commands.f k a0) (letterboxlaw18_commands.f (k + 1) a0) := by
  intro a0 k
  have ih0 := letterboxlaw18_commands.mono_l k
  unfold letterboxlaw18_commands.f
  repeat' first
      | (with_reducible exact ih0 _ _ _)
      | (with_reducible exact LeO.refl _)
      | (with_reducible exact LeO.none _)
      | (with_reducible refine LeO.ite ?_ ?_)
      | (with_reducible refine LeO.bind ?_ (fun _ => ?_))
      | exact ih0 _ _ _
      | exact LeO.none _
      | refine LeO.ite ?_ ?_
      | refine LeO.bind ?_ (fun _ => ?_)
set_option maxHeartbeats 8000000 in
set_option maxRecDepth 100000 in
theorem letterboxlaw18_commands.calls (k : Nat) (A0 : Option Addr) (c0 : Nat) (l0 : List (S33)) (r1 : ByteArray) (r2 : Bool) (w : World) (hr0 : Kd.C k33 w A0 l0.length l0) (hc0 : l0.length ≤ c0) (h : letterboxlaw18_commands.f k l0 = some (r1, r2)) :
    Calls Try.prog 8 #[.slice A0 l0.length c0] w fun e w' => e = .returned (.tuple #[.string r1, .bool r2]) ∧ Drawn0 w w' := by
  have HR0 := Aside0.mk hr0
  have HC0 := Aside0.mk hc0
  clear hr0 hc0
  have H : (letterboxlaw18_commands.l0 k l0 (⟨#[]⟩ : ByteArray) 0) = some (r1, r2) := h
  clear h
  have H' := Aside0.mk H
  clear H
  go_enter Try.func8, Try.ntmps8
  go_wp2
  go_loopg [4, 5] k (fun kq v4 v5 w' => ∃ (x4_1 : ByteArray) (x5_1 : Int), v4 = .string x4_1 ∧ v5 = .int .i64 x5_1 ∧ Aside0 (letterboxlaw18_commands.l0 kq l0 x4_1 x5_1 = some (r1, r2)) ∧ Aside0 (kq ≤ k) ∧ Drawn0 w w')
  case atStart => exact ⟨((⟨#[]⟩ : ByteArray)), (0), (by first | rfl | (simp; done) | (simp [*]; done)), (by first | rfl | (simp; done) | (simp [*]; done)), H', ⟨Nat.le_refl _⟩, by repeat (first | exact Drawn0.refl _ | apply Drawn0.step)⟩
  case round =>
    clear H'
    obtain ⟨x4_1, x5_1, rfl, rfl, HA, HK1, ⟨m1, rfl⟩⟩ := hrel
    cases gk with
    | zero => exact absurd HA.out (by simp [letterboxlaw18_commands.l0])
    | succ k1 =>
      have H := HA.out
      clear HA
      simp only [letterboxlaw18_commands.l0] at H
      by_cases c2 : x5_1 < (l0.length : Int)
      · rw [if_pos c2] at H
        have c2b0 : decide (x5_1 < (l0.length : Int)) = true := decide_eq_true c2
        clear c2
        by_cases c3 : 0 ≤ x5_1
        · rw [if_pos c3] at H
          have c3b0 : decide (0 ≤ x5_1) = true := decide_eq_true c3
          clear c3
          by_cases c4 : ((rd_T33 l0 x5_1).f0) = 3
          · rw [if_pos c4] at H
            have c4b0 : (((rd_T33 l0 x5_1).f0) == 3) = true := beq_iff_eq.mpr c4
            have c4b1 : (((rd_T33 l0 x5_1).f0) != 3) = false := bne_eq_false_iff_eq.mpr c4
            clear c4
            simp only [Option.some.injEq, Prod.mk.injEq] at H
            obtain ⟨rfl, rfl⟩ := H
            have p194 : 0 ≤ (x5_1 : Int) := of_decide_eq_true (by first | (with_reducible assumption) | assumption)
            have q194 : x5_1 < (l0.length : Int) := of_decide_eq_true (by first | (with_reducible assumption) | assumption)
            obtain ⟨ad194, A194_1, c194_1, e194, hx194_0, hx194_1, hl194_1, hi194_1⟩ := at_T33 HR0.out x5_1 p194 q194
            cases e194
            have HR194_1 := Aside0.mk hi194_1
            have HC194_1 := Aside0.mk hl194_1
            clear hi194_1 hl194_1
            replace p194 := eq_true p194
            replace q194 := eq_true q194
            go_wp2
            go_ret2
            exact ⟨by first | rfl | (simp; done) | (simp [*]; done), by repeat (first | exact Drawn0.refl _ | apply Drawn0.step)⟩
          · rw [if_neg c4] at H
            have c4b0 : (((rd_T33 l0 x5_1).f0) == 3) = false := beq_eq_false_iff_ne.mpr c4
            have c4b1 : (((rd_T33 l0 x5_1).f0) != 3) = true := bne_iff_ne.mpr c4
            by_cases c5 : ((rd_T33 l0 x5_1).f0) = 2
            · rw [if_pos c5] at H
              have c5b0 : (((rd_T33 l0 x5_1).f0) == 2) = true := beq_iff_eq.mpr c5
              have c5b1 : (((rd_T33 l0 x5_1).f0) != 2) = false := bne_eq_false_iff_eq.mpr c5
              clear c5
              by_cases c6 : (strOfNums ((rd_T33 l0 x5_1).f1)).size + 2 ≤ 9223372036854775807
              · rw [if_pos c6] at H
                have c6b0 := eq_true c6
                have c6b1 : decide ((strOfNums ((rd_T33 l0 x5_1).f1)).size + 2 ≤ 9223372036854775807) = true := decide_eq_true c6
                try have c6b2 : (9223372036854775807 < (strOfNums ((rd_T33 l0 x5_1).f1)).size + 2) = False := eq_false (Nat.not_lt.2 c6)
                by_cases c7 : x4_1.size + ((strOfNums ((rd_T33 l0 x5_1).f1)) ++ (⟨#[0, 10]⟩ : ByteArray)).size ≤ 9223372036854775807
                · rw [if_pos c7] at H
                  have c7b0 := eq_true c7
                  have c7b1 : decide (x4_1.size + ((strOfNums ((rd_T33 l0 x5_1).f1)) ++ (⟨#[0, 10]⟩ : ByteArray)).size ≤ 9223372036854775807) = true := decide_eq_true c7
                  try have c7b2 : (9223372036854775807 < x4_1.size + ((strOfNums ((rd_T33 l0 x5_1).f1)) ++ (⟨#[0, 10]⟩ : ByteArray)).size) = False := eq_false (Nat.not_lt.2 c7)
                  try have c7b4 : (9223372036854775807 < x4_1.size + ((strOfNums ((rd_T33 l0 x5_1).f1)).size + 2)) = False := eq_false (Nat.not_lt.2 (by have h_ := c7; simp only [ByteArray.size_append] at h_; exact h_))
                  have H' := Aside0.mk H
                  clear H
                  have p194 : 0 ≤ (x5_1 : Int) := of_decide_eq_true (by first | (with_reducible assumption) | assumption)
                  have q194 : x5_1 < (l0.length : Int) := of_decide_eq_true (by first | (with_reducible assumption) | assumption)
                  obtain ⟨ad194, A194_1, c194_1, e194, hx194_0, hx194_1, hl194_1, hi194_1⟩ := at_T33 HR0.out x5_1 p194 q194
                  cases e194
                  have HR194_1 := Aside0.mk hi194_1
                  have HC194_1 := Aside0.mk hl194_1
                  clear hi194_1 hl194_1
                  replace p194 := eq_true p194
                  replace q194 := eq_true q194
                  have p195 : 0 ≤ (x5_1 : Int) := of_decide_eq_true (by first | (with_reducible assumption) | assumption)
                  have q195 : x5_1 < (l0.length : Int) := of_decide_eq_true (by first | (with_reducible assumption) | assumption)
                  obtain ⟨ad195, A195_1, c195_1, e195, hx195_0, hx195_1, hl195_1, hi195_1⟩ := at_T33 HR0.out x5_1 p195 q195
                  obtain rfl : ad194 = ad195 := (by injection e195)
                  have HR195_1 := Aside0.mk hi195_1
                  have HC195_1 := Aside0.mk hl195_1
                  clear hi195_1 hl195_1
                  replace p195 := eq_true p195
                  replace q195 := eq_true q195
                  have ea_ := Option.some.inj (hx194_1.symm.trans hx195_1)
                  injection ea_ with ea_ en_ ec_
                  subst ea_
                  subst ec_
                  clear en_
                  have p196 : 0 ≤ (x5_1 : Int) := of_decide_eq_true (by first | (with_reducible assumption) | assumption)
                  have q196 : x5_1 < (l0.length : Int) := of_decide_eq_true (by first | (with_reducible assumption) | assumption)
                  obtain ⟨ad196, A196_1, c196_1, e196, hx196_0, hx196_1, hl196_1, hi196_1⟩ := at_T33 HR0.out x5_1 p196 q196
                  obtain rfl : ad194 = ad196 := (by injection e196)
                  have HR196_1 := Aside0.mk hi196_1
                  have HC196_1 := Aside0.mk hl196_1
                  clear hi196_1 hl196_1
                  replace p196 := eq_true p196
                  replace q196 := eq_true q196
                  have ea_ := Option.some.inj (hx194_1.symm.trans hx196_1)
                  injection ea_ with ea_ en_ ec_
                  subst ea_
                  subst ec_
                  clear en_
                  have hcv8 := fun n_ : Nat => Kd.C_string (P := Try.prog) (A := A194_1) (c := c194_1) Try.underlying22 Try.underlying5 Try.underlying9 (Kd.C_drewN HR196_1.out n_)
                  have hcv9 := fun m_ n_ : Nat => Kd.C_string (P := Try.prog) (A := A194_1) (c := c194_1) Try.underlying22 Try.underlying5 Try.underlying9 (Kd.C_drewN (Kd.C_drewN HR196_1.out m_) n_)
                  have hcv10 := Kd.C_string (P := Try.prog) (A := A194_1) (c := c194_1) Try.underlying22 Try.underlying5 Try.underlying9 HR196_1.out
                  go_wp2
                  go_roundg k1
                  case measure => have := HK1.out; omega
                  case rel => exact ⟨(x4_1 ++ ((strOfNums ((rd_T33 l0 x5_1).f1)) ++ (⟨#[0, 10]⟩ : ByteArray))), (wrap64 (x5_1 + 1)), (by first | rfl | (simp; done) | (simp [*]; done)), (by first | rfl | (simp; done) | (simp [*]; done)), H', ⟨by have := HK1.out; omega⟩, by repeat (first | exact Drawn0.refl _ | apply Drawn0.step)⟩
                · rw [if_neg c7] at H
                  exact absurd H (by simp)
              · rw [if_neg c6] at H
                exact absurd H (by simp)
            · rw [if_neg c5] at H
              have c5b0 : (((rd_T33 l0 x5_1).f0) == 2) = false := beq_eq_false_iff_ne.mpr c5
              have c5b1 : (((rd_T33 l0 x5_1).f0) != 2) = true := bne_iff_ne.mpr c5
              have H' := Aside0.mk H
              clear H
              have p194 : 0 ≤ (x5_1 : Int) := of_decide_eq_true (by first | (with_reducible assumption) | assumption)
              have q194 : x5_1 < (l0.length : Int) := of_decide_eq_true (by first | (with_reducible assumption) | assumption)
              obtain ⟨ad194, A194_1, c194_1, e194, hx194_0, hx194_1, hl194_1, hi194_1⟩ := at_T33 HR0.out x5_1 p194 q194
              cases e194
              have HR194_1 := Aside0.mk hi194_1
              have HC194_1 := Aside0.mk hl194_1
              clear hi194_1 hl194_1
              replace p194 := eq_true p194
              replace q194 := eq_true q194
              have p195 : 0 ≤ (x5_1 : Int) := of_decide_eq_true (by first | (with_reducible assumption) | assumption)
              have q195 : x5_1 < (l0.length : Int) := of_decide_eq_true (by first | (with_reducible assumption) | assumption)
              obtain ⟨ad195, A195_1, c195_1, e195, hx195_0, hx195_1, hl195_1, hi195_1⟩ := at_T33 HR0.out x5_1 p195 q195
              obtain rfl : ad194 = ad195 := (by injection e195)
              have HR195_1 := Aside0.mk hi195_1
              have HC195_1 := Aside0.mk hl195_1
              clear hi195_1 hl195_1
              replace p195 := eq_true p195
              replace q195 := eq_true q195
              have ea_ := Option.some.inj (hx194_1.symm.trans hx195_1)
              injection ea_ with ea_ en_ ec_
              subst ea_
              subst ec_
              clear en_
              go_wp2
              go_roundg k1
              case measure => have := HK1.out; omega
              case rel => exact ⟨(x4_1), (wrap64 (x5_1 + 1)), (by first | rfl | (simp; done) | (simp [*]; done)), (by first | rfl | (simp; done) | (simp [*]; done)), H', ⟨by have := HK1.out; omega⟩, by repeat (first | exact Drawn0.refl _ | apply Drawn0.step)⟩
        · rw [if_neg c3] at H
          exact absurd H (by simp)
      · rw [if_neg c2] at H
        have c2b0 : decide (x5_1 < (l0.length : Int)) = false := decide_eq_false c2
        clear c2
        simp only [Option.some.injEq, Prod.mk.injEq] at H
        obtain ⟨rfl, rfl⟩ := H
        go_wp2
        go_ret2
        exact ⟨by first | rfl | (simp; done) | (simp [*]; done), by repeat (first | exact Drawn0.refl _ | apply Drawn0.step)⟩

/-- A state of type 25 at block g of W; what its slices lead to came in by w0. -/
def IsS25 (w0 W : World) (g : Nat) (f0 : List Int) (f1 : Int) : Prop := ∃ A0 c0, W.heap[g]? = some (.cells #[.slice A0 f0.length c0, .int .i64 f1] 25 (0, 0)) ∧ w0.heap.size ≤ g ∧ Kd.C (Kd.int .u8) w0 A0 f0.length f0
theorem IsS25.grown {w0 W : World} {g : Nat} {f0 : List Int} {f1 : Int} {W1 : World} {row : Option Nat} (h : IsS25 w0 W g f0 f1) (hw : W.grownBy W1 row) (hne : some g ≠ row) : IsS25 w0 W1 g f0 f1 := by
  obtain ⟨A0, c0, hb, hg, hr0⟩ := h
  exact ⟨A0, c0, blk_grown hb hw hne, hg, hr0⟩
theorem IsS25.own_neN {w0 W : World} {g : Nat} {f0 : List Int} {f1 : Int} {α : Type} {d : Kd α} {e : Nat} {base : Nat} {ok : Nat → Prop} {v : Value} {xs : List α} (h : IsS25 w0 W g f0 f1) (ho : Kd.N d e W base ok v xs) (ht : e ≠ 25) : some g ≠ v.ownBlock := by
  obtain ⟨A0, c0, hb, hg, hr0⟩ := h
  exact Kd.N_ne ho hb ht
theorem IsS25.fresh {w0 W : World} {g : Nat} {f0 : List Int} {f1 : Int} (h : IsS25 w0 W g f0 f1) : ∀ k, W.heap.size ≤ k → k ≠ g := by
  obtain ⟨A0, c0, hb, hg, hr0⟩ := h
  exact Kd.freshB hb
theorem IsS25.kept {w0 W : World} {g : Nat} {f0 : List Int} {f1 : Int} {W1 : World} {S : Nat → Prop} (h : IsS25 w0 W g f0 f1) (hk : Kept W W1 S) (hne : ¬ S g) : IsS25 w0 W1 g f0 f1 := by
  obtain ⟨A0, c0, hb, hg, hr0⟩ := h
  exact ⟨A0, c0, blk_kept hb hk hne, hg, hr0⟩
theorem IsS25.below {w0 W : World} {g : Nat} {f0 : List Int} {f1 : Int} {W1 : World} (h : IsS25 w0 W g f0 f1) (hw : Below W.heap.size W W1) : IsS25 w0 W1 g f0 f1 := h.grown (grown_of_below hw none) (by simp)
theorem IsS25.alloc {w0 W : World} {g : Nat} {f0 : List Int} {f1 : Int} (h : IsS25 w0 W g f0 f1) (o : Obj) : IsS25 w0 (W.alloc o) g f0 f1 := h.below (below_alloc (Below.refl _ _) o)
theorem IsS25.drewN {w0 W : World} {g : Nat} {f0 : List Int} {f1 : Int} (h : IsS25 w0 W g f0 f1) (m : Nat) : IsS25 w0 (W.drewN m) g f0 f1 := h
theorem IsS25.drew {w0 W : World} {g : Nat} {f0 : List Int} {f1 : Int} (h : IsS25 w0 W g f0 f1) : IsS25 w0 W.drew g f0 f1 := h
theorem IsS25.at_ {w0 W : World} {g : Nat} {f0 : List Int} {f1 : Int} {w' : World} {m : Nat} (hq : W.drewN m = w') (h : IsS25 w0 W g f0 f1) : IsS25 w0 w' g f0 f1 := by subst hq; exact IsS25.drewN h m
theorem IsS25.apart {w0 W : World} {g : Nat} {f0 : List Int} {f1 : Int} {α : Type} {d : Kd α} {e : Nat} {base : Nat} {ok : Nat → Prop} {v : Value} {xs : List α} (h : IsS25 w0 W g f0 f1) (ho : d.R e W base ok v xs) (ht : ∀ q, q ∈ e :: d.E → q ≠ 25) : d.R e W base (fun k => ok k ∧ k ≠ g) v xs := by
  obtain ⟨A0, c0, hb, hg, hr0⟩ := h
  exact Kd.R_types ho hb ht
theorem IsS25.own_ne {w0 W : World} {g : Nat} {f0 : List Int} {f1 : Int} {α : Type} {d : Kd α} {e : Nat} {base : Nat} {ok : Nat → Prop} {v : Value} {xs : List α} (h : IsS25 w0 W g f0 f1) (ho : d.R e W base ok v xs) (ht : e ≠ 25) : some g ≠ v.ownBlock := by
  obtain ⟨A0, c0, hb, hg, hr0⟩ := h
  exact Kd.R_ne ho hb ht
theorem IsS25.apartQ {w0 W : World} {g : Nat} {f0 : List Int} {f1 : Int} {α : Type} {d : Kd α} {e : Nat} {base : Nat} {ok : Nat → Prop} {v : Value} {xs : List α} (h : IsS25 w0 W g f0 f1) (ho : d.Q e W base ok v xs) (ht : ∀ q, q ∈ e :: d.E → q ≠ 25) : d.Q e W base (fun k => ok k ∧ k ≠ g) v xs := by
  obtain ⟨A0, c0, hb, hg, hr0⟩ := h
  exact Kd.Q_types ho hb ht
theorem IsS25.own_neQ {w0 W : World} {g : Nat} {f0 : List Int} {f1 : Int} {α : Type} {d : Kd α} {e : Nat} {base : Nat} {ok : Nat → Prop} {v : Value} {xs : List α} (h : IsS25 w0 W g f0 f1) (ho : d.Q e W base ok v xs) (ht : e ≠ 25) : some g ≠ v.ownBlock := by
  obtain ⟨A0, c0, hb, hg, hr0⟩ := h
  exact Kd.Q_ne ho hb ht
theorem IsS25.apartS {w0 W : World} {g : Nat} {f0 : List Int} {f1 : Int} {α : Type} {d : Kd α} {e : Nat} {base : Nat} {ok : Nat → Prop} {v : Value} {xs : List α} (h : IsS25 w0 W g f0 f1) (ho : d.S e W base ok v xs) (ht : ∀ q, q ∈ e :: d.E → q ≠ 25) : d.S e W base (fun k => ok k ∧ k ≠ g) v xs := by
  obtain ⟨A0, c0, hb, hg, hr0⟩ := h
  exact Kd.S_types ho hb ht
theorem IsS25.own_neS {w0 W : World} {g : Nat} {f0 : List Int} {f1 : Int} {α : Type} {d : Kd α} {e : Nat} {base : Nat} {ok : Nat → Prop} {v : Value} {xs : List α} (h : IsS25 w0 W g f0 f1) (ho : d.S e W base ok v xs) (ht : e ≠ 25) : some g ≠ v.ownBlock := by
  obtain ⟨A0, c0, hb, hg, hr0⟩ := h
  exact Kd.S_ne ho hb ht
theorem IsS25.lt {w0 W : World} {g : Nat} {f0 : List Int} {f1 : Int} (h : IsS25 w0 W g f0 f1) : g < W.heap.size := by
  obtain ⟨A0, c0, hb, hg, hr0⟩ := h
  exact blk_lt hb
theorem IsS25.ge {w0 W : World} {g : Nat} {f0 : List Int} {f1 : Int} (h : IsS25 w0 W g f0 f1) : w0.heap.size ≤ g := by
  obtain ⟨A0, c0, hb, hg, hr0⟩ := h
  exact hg
theorem IsS25.ne_blk {w0 W : World} {g : Nat} {f0 : List Int} {f1 : Int} {a : Nat} {cs : Array Value} {t : TypeId} {fr : Nat × Nat} (h : IsS25 w0 W g f0 f1) (hb2 : W.heap[a]? = some (.cells cs t fr)) (ht : t ≠ 25) : g ≠ a := by
  obtain ⟨A0, c0, hb, hg, hr0⟩ := h
  rintro rfl
  rw [hb] at hb2
  injection hb2 with hb2
  injection hb2 with _ ht2
  exact ht ht2.symm
theorem IsS25.far {w0 W : World} {g : Nat} {f0 : List Int} {f1 : Int} {p : Addr} (h : IsS25 w0 W g f0 f1) (hne : g ≠ p.block) (u : Value) : IsS25 w0 (W.setCell p u) g f0 f1 := by
  obtain ⟨A0, c0, hb, hg, hr0⟩ := h
  exact ⟨A0, c0, blk_far hb hne u, hg, hr0⟩
theorem cellS25_0 {W : World} {g : Nat} {A0 : Option Addr} {c0 : Nat} {f0 : List Int} {f1 : Int} (h : W.heap[g]? = some (.cells #[.slice A0 f0.length c0, .int .i64 f1] 25 (0, 0))) : W.cell? ⟨g, 0, none⟩ = some (.slice A0 f0.length c0) := (blk_cell h 0).trans rfl
theorem cellS25_1 {W : World} {g : Nat} {A0 : Option Addr} {c0 : Nat} {f0 : List Int} {f1 : Int} (h : W.heap[g]? = some (.cells #[.slice A0 f0.length c0, .int .i64 f1] 25 (0, 0))) : W.cell? ⟨g, 1, none⟩ = some (.int .i64 f1) := (blk_cell h 1).trans rfl
theorem IsS25.set_1 {w0 W : World} {g : Nat} {f0 : List Int} {f1 : Int} (h : IsS25 w0 W g f0 f1) (x : Int) : IsS25 w0 (W.setCell ⟨g, 1, none⟩ (.int .i64 x)) g f0 x := by
  obtain ⟨A0, c0, hb, hg, hr0⟩ := h
  exact ⟨A0, c0, by simpa using blk_set hb 1 (.int .i64 x), hg, hr0⟩
theorem IsS25.new (w0 W : World) (A0 : Option Addr) (c0 : Nat) (f0 : List Int) (f1 : Int) (hB : Below w0.heap.size w0 W) (hr0 : Kd.C (Kd.int .u8) w0 A0 f0.length f0) : IsS25 w0 (W.alloc (.cells #[.slice A0 f0.length c0, .int .i64 f1] 25)) W.heap.size f0 f1 := ⟨A0, c0, by simpa using heap_alloc_new W _, hB.size, hr0⟩

/-! ### wire_Framer_Left: function 10 -/
def wire_Framer_Left.f (s0_0 : List Int) (s0_1 : Int) : Option (Int × Int) := some ((s0_0.length : Int), s0_1)
set_option maxHeartbeats 8000000 in
set_option maxRecDepth 100000 in
theorem wire_Framer_Left.calls (g : Nat) (s0_0 : List Int) (s0_1 : Int) (r1 : Int) (r2 : Int) (w0 w : World) (hI : IsS25 w0 w g s0_0 s0_1) (hB : Below w0.heap.size w0 w) (h : wire_Framer_Left.f s0_0 s0_1 = some (r1, r2)) :
    Calls Try.prog 10 #[.pointer (some ⟨g, 0, none⟩)] w fun e w' => e = .returned (.int .i64 r1) ∧ IsS25 w0 w' g s0_0 r2 ∧ Below w0.heap.size w0 w' ∧ KeepBut w w' g none := by
  have HI0 := Aside0.mk hI
  have HK := Aside0.mk (KeepBut.refl w g none)
  have HL := Aside0.mk hB.size
  clear hI
  have HW0 := Aside0.mk hB.size
  have HB := Aside0.mk hB
  clear hB
  have H : (some ((s0_0.length : Int), s0_1)) = some (r1, r2) := h
  clear h
  simp only [Option.some.injEq, Prod.mk.injEq] at H
  obtain ⟨rfl, rfl⟩ := H
  obtain ⟨ASz2_0, cSz2_0, HGz2, hgz2, HSz2_0⟩ := HI0.out
  have hcz2_0 := cellS25_0 HGz2
  have hcz2_1 := cellS25_1 HGz2
  have hfz2_1 := blk_frozen HGz2 1
  clear HGz2 hgz2
  go_enter Try.func10, Try.ntmps10
  go_wp2
  go_ret
  exact ⟨by first | rfl | (simp [errW_none, errW_some] <;> rfl) | (simp [*, errW_none, errW_some] <;> rfl), by repeat (first | (with_reducible first | exact HI0.out | apply IsS25.alloc | apply IsS25.drewN | apply IsS25.drew | apply IsS25.set_1) | exact HI0.out), by repeat (first | (with_reducible first | exact HB.out | apply below_alloc | apply pw_below_drewN | apply below_drew1 | refine below_set ?_ (IsS25.ge HI0.out)) | exact HB.out), by repeat (first | (with_reducible first | exact HK.out | apply KeepBut.set_ | apply keep_drewN | apply keep_drew | apply keep_alloc) | exact HK.out)⟩

end Go.Proofs.Ytmdhggiffdkmfaa.P
