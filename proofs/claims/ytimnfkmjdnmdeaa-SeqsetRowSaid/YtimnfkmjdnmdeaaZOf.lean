import Derived.Test.YtimnfkmjdnmdeaaZDel
import Derived.Lib.SliceRun
namespace Go.Proofs.Ytimnfkmjdnmdeaa.P
open Go.RowKit Go.Proofs.YtimnfkmjdnmdeaaW.PrintWords Go.Proofs.YtimnfkmjdnmdeaaW.PrintLast Go.Proofs.YtimnfkmjdnmdeaaW.PrintMore
attribute [-simp] Int.tmod_tmod_of_dvd
set_option linter.unusedVariables false
set_option linter.unusedSimpArgs false
theorem sq_zeros {g n cap base : Nat} {ok : Nat → Prop} : ∀ (m o : Nat) (W : World) (xs : List Int), Kd.R (Kd.int .i64) 3 W base ok (.slice (some ⟨g, 0, none⟩) n cap) xs → o + m ≤ xs.length →
    ∃ ys, Kd.R (Kd.int .i64) 3 (W.setCells g o (List.replicate m (.int .i64 0))) base ok (.slice (some ⟨g, 0, none⟩) n cap) ys ∧ ys.length = xs.length ∧ ys.take o = xs.take o
  | 0, o, W, xs, h, _ => ⟨xs, h, rfl, rfl⟩
  | m + 1, o, W, xs, h, hl => by
    have hp := Kd.R_putn (enc := Value.int .i64) (h1 := fun _ => rfl) h (o : Int) 0
    simp only [Int.toNat_natCast] at hp
    obtain ⟨ys, h1, h2, h3⟩ := sq_zeros m (o + 1) _ _ hp (by simp; omega)
    refine ⟨ys, h1, by simpa using h2, ?_⟩
    have := congrArg (List.take o) h3
    rw [List.take_take, List.take_take, Nat.min_eq_left (Nat.le_succ o)] at this
    rw [this]
    exact List.take_set_of_le (Nat.le_refl o)
theorem sq_below_zeros {B g : Nat} {a : World} (hg : B ≤ g) : ∀ (vs : List Value) (o : Nat) {w : World}, Below B a w → Below B a (w.setCells g o vs)
  | [], _, _, h => h
  | v :: r, o, _, h => sq_below_zeros hg r (o + 1) (h.setCell (p := ⟨g, o, none⟩) hg v)
theorem sq_nx_le (l : List S32) (last : Int) : ∀ xs : List Int, sq_nx l last xs ≤ xs.length
  | [] => Nat.le_refl _
  | x :: t => by
    show (if sq_has l x last = false then 0 else sq_nx l last t + 1) ≤ t.length + 1
    have := sq_nx_le l last t
    split <;> omega
theorem sq_nx_take (l : List S32) (last : Int) : ∀ xs : List Int, (xs.take (sq_nx l last xs)).filter (fun x => sq_has l x last) = xs.take (sq_nx l last xs)
  | [] => rfl
  | x :: t => by
    show (List.take (if sq_has l x last = false then 0 else sq_nx l last t + 1) (x :: t)).filter _ = List.take (if sq_has l x last = false then 0 else sq_nx l last t + 1) (x :: t)
    by_cases h : sq_has l x last = false
    · rw [if_pos h]; rfl
    · rw [if_neg h, List.take_succ_cons, List.filter_cons, if_pos (by simpa using h), sq_nx_take l last t]
theorem sq_nx_no (l : List S32) (last : Int) : ∀ xs : List Int, sq_nx l last xs < xs.length → sq_has l (rd xs (sq_nx l last xs : Int)) last = false
  | [], h => by simp [sq_nx] at h
  | x :: t, h => by
    by_cases hh : sq_has l x last = false
    · have : sq_nx l last (x :: t) = 0 := if_pos hh
      rw [this]; exact hh
    · have e : sq_nx l last (x :: t) = sq_nx l last t + 1 := if_neg hh
      rw [e] at h ⊢
      exact sq_nx_no l last t (by simpa using h)
theorem sq_rd_drop (xs ys : List Int) (j : Nat) (h : ys.drop j = xs.drop j) : rd ys (j : Int) = rd xs (j : Int) := by
  have : (ys.drop j)[0]? = (xs.drop j)[0]? := by rw [h]
  simp only [List.getElem?_drop, Nat.add_zero] at this
  show ys.getD (j : Int).toNat 0 = xs.getD (j : Int).toNat 0
  simp only [Int.toNat_natCast, List.getD_eq_getElem?_getD, this]
theorem sq_take_succ (xs : List Int) (j : Nat) (h : j < xs.length) : xs.take (j + 1) = xs.take j ++ [rd xs (j : Int)] := by
  rw [List.take_add_one, List.getElem?_eq_getElem h]
  show _ = _ ++ [xs.getD (j : Int).toNat 0]
  simp only [Int.toNat_natCast, List.getD_eq_getElem?_getD, List.getElem?_eq_getElem h]; rfl
theorem sq_zero3 (w : World) : (zeroValue 3).run Try.prog w = .ok (.int .i64 0) w := by
  first | (go_simp; done) | kernel_rfl
theorem sq_nxr_lt (l : List S32) (last : Int) (xs : List Int) (h : sq_nx l last xs < xs.length) : sq_nxr l last xs = (sq_nx l last xs : Int) := if_pos h
theorem sq_nxr_ge (l : List S32) (last : Int) (xs : List Int) (h : ¬ sq_nx l last xs < xs.length) : sq_nxr l last xs = -1 := if_neg h
set_option maxHeartbeats 4000000 in
theorem sq_DeleteFunc (w0 : World) (A : Option Addr) (c : Nat) (l : List S32) (last : Int) (pb pl : Nat) (hb : w0.cell? ⟨pb, 0, none⟩ = some (.slice A l.length c)) (hl : w0.cell? ⟨pl, 0, none⟩ = some (.int .i64 last)) (hr : Kd.C k32 w0 A l.length l) (hll : l.length ≤ 100000)
    (g cap : Nat) (xs : List Int) (w : World) (hB : Below w0.heap.size w0 w) (hR : Kd.R (Kd.int .i64) 3 w w0.heap.size (fun _ => True) (.slice (some ⟨g, 0, none⟩) xs.length cap) xs) (hxl : xs.length ≤ 100000) :
    Calls Try.prog 25 #[.slice (some ⟨g, 0, none⟩) xs.length cap, .func (.func 27) #[] #[.pointer (some ⟨pb, 0, none⟩), .pointer (some ⟨pl, 0, none⟩)]] w fun e w' => ∃ v, e = .returned v ∧ Kd.R (Kd.int .i64) 3 w' w0.heap.size (fun _ => True) v (xs.filter fun x => sq_has l x last) ∧ Below w0.heap.size w0 w' := by
  have lb := World.block_lt_of_cell? w0 _ hb
  have ll := World.block_lt_of_cell? w0 _ hl
  have hgb : w0.heap.size ≤ g := Kd.R_base hR g rfl
  have hcap : xs.length ≤ cap := (Kd.R_reads' hR).2.1
  have HX := Aside0.mk (sq_nx_take l last xs)
  have HN := Aside0.mk (sq_nx_no l last xs)
  have hle := sq_nx_le l last xs
  by_cases hx : sq_nx l last xs < xs.length
  · have HN2 := Aside0.mk (HN.out hx)
    have hnr := sq_nxr_lt l last xs hx
    generalize sq_nx l last xs = d at *
    clear HN
    have hd0 : ((d : Int) == -1) = false := beq_false_of_ne (by omega)
    go_enter Try.func25, Try.ntmps25
    go_wp2_with (go_at_call 34; refine (sq_IndexInt _ cap xs A c l last pb pl _ (Kd.R_reads' hR).2.2 hxl ((hB.cell lb).trans hb) ((hB.cell ll).trans hl) (Kd.C_below hr hB) hll).mono ?_; rw [hnr]; rintro e w2 ⟨rfl, hB2⟩; have HBB := Aside0.mk (hB.trans (hB2.mono hB.size)); have HR := Aside0.mk (Kd.R_below hR hB2); clear hB2 hR)
    go_loopw [5, 6, 7] (fun vi vj _ wr => ∃ (i j : Nat) (ys : List Int), i < j ∧ j ≤ xs.length ∧ ys.length = xs.length ∧ vi = .int .i64 (i : Int) ∧ vj = .int .i64 (j : Int) ∧ Aside0 (Below w0.heap.size w0 wr) ∧ Aside0 (Kd.R (Kd.int .i64) 3 wr w0.heap.size (fun _ => True) (.slice (some ⟨g, 0, none⟩) xs.length cap) ys) ∧ Aside0 (ys.take i = (xs.take j).filter fun x => sq_has l x last) ∧ Aside0 (ys.drop j = xs.drop j)) (fun _ vj _ _ => xs.length - (intOf vj).toNat)
    case atStart =>
      refine ⟨d, d + 1, xs, by omega, by omega, rfl, rfl, by go_num, ⟨HBB.out⟩, ⟨HR.out⟩, ⟨?_⟩, ⟨rfl⟩⟩
      rw [sq_take_succ xs d hx, List.filter_append, HX.out]
      simp [HN2.out]
    case round =>
      obtain ⟨i, j, ys, hij, hj, hyl, rfl, rfl, hBr, hRr, hT, hD⟩ := hrel
      clear HBB HR HX HN2 hnr hd0
      by_cases hlt : j < xs.length
      · have hbb := sq_klt j _ hlt
        have hv := Kd.R_celln (0 : Int) hRr.out (j : Int) (by omega) (by omega)
        have hw := Kd.R_celln (0 : Int) hRr.out (i : Int) (by omega) (by omega)
        have e : rdOf 0 ys (j : Int) = rd xs (j : Int) := sq_rd_drop xs ys j hD.out
        rw [e] at hv
        clear e
        obtain ⟨hv1, hv2⟩ := hv
        obtain ⟨hw1, hw2⟩ := hw
        simp only [Int.toNat_natCast] at hv1 hv2 hw1 hw2
        have HC := Aside0.mk ((hBr.out.cell lb).trans hb)
        have HL := Aside0.mk ((hBr.out.cell ll).trans hl)
        have HK := Aside0.mk (Kd.C_below hr hBr.out)
        have HS := Aside0.mk (sq_take_succ xs j hlt)
        generalize hxv : rd xs (j : Int) = x at *
        clear hxv
        cases hh : sq_has l x last with
        | true =>
          have HV := Aside0.mk (show (!sq_has l x last) = false from by rw [hh]; rfl)
          have HV2 := Aside0.mk hh
          clear hh
          go_wp2_with (go_at_call 27; refine (sq_not x last pb pl A c l _ HC.out HL.out HK.out hll).mono ?_; rw [HV.out]; rintro e w2 ⟨rfl, hB2⟩; have HBB := Aside0.mk (hBr.out.trans (hB2.mono hBr.out.size)); have HRR := Aside0.mk (Kd.R_below hRr.out hB2); have hw3 := (hB2.cell (World.block_lt_of_cell? _ _ hw1)).trans hw1; have hw4 := (Kd.R_celln (0 : Int) (Kd.R_below hRr.out hB2) (i : Int) (by omega) (by omega)).2; simp only [Int.toNat_natCast] at hw4; clear hB2)
          go_roundw
          case rel =>
            have hp := Kd.R_putn (enc := Value.int .i64) (h1 := fun _ => rfl) HRR.out (i : Int) x
            simp only [Int.toNat_natCast] at hp
            refine ⟨i + 1, j + 1, ys.set i x, by omega, by omega, by simpa using hyl, by go_num, by go_num, ⟨HBB.out.setCell (p := ⟨g, i, none⟩) hgb _⟩, ⟨hp⟩, ⟨?_⟩, ⟨?_⟩⟩
            · rw [HS.out, List.filter_append, ← hT.out]
              rw [show List.take (i + 1) (ys.set i x) = ys.take i ++ [x] from by
                rw [List.take_add_one, List.take_set_of_le (Nat.le_refl i), List.getElem?_set_self (by omega)]; rfl]
              simp [HV2.out]
            · rw [List.drop_set_of_lt (by omega)]
              have := congrArg (List.drop 1) hD.out
              simpa [List.drop_drop] using this
          case measure => simp [intOf]; omega
        | false =>
          have HV := Aside0.mk (show (!sq_has l x last) = true from by rw [hh]; rfl)
          have HV2 := Aside0.mk hh
          clear hh
          go_wp2_with (go_at_call 27; refine (sq_not x last pb pl A c l _ HC.out HL.out HK.out hll).mono ?_; rw [HV.out]; rintro e w2 ⟨rfl, hB2⟩; have HBB := Aside0.mk (hBr.out.trans (hB2.mono hBr.out.size)); have HRR := Aside0.mk (Kd.R_below hRr.out hB2); clear hB2)
          go_roundw
          case rel =>
            refine ⟨i, j + 1, ys, by omega, by omega, hyl, rfl, by go_num, ⟨HBB.out⟩, ⟨HRR.out⟩, ⟨?_⟩, ⟨?_⟩⟩
            · rw [HS.out, List.filter_append, ← hT.out]
              simp [HV2.out]
            · have := congrArg (List.drop 1) hD.out
              simpa [List.drop_drop] using this
          case measure => simp [intOf]; omega
      · have hbb := sq_kge j _ hlt
        have hje : j = xs.length := by omega
        have hcl : ∀ ty, (Builtin.clear_ #[22] ty #[.slice (some ⟨g, i, none⟩) (xs.length - i) (cap - i)]).run Try.prog wr = .ok (.tuple #[]) (wr.setCells g i (List.replicate (xs.length - i) (.int .i64 0))) := fun ty =>
          Lib.run_clear_slice wr 22 3 ty (.int .i64 0) Try.underlying22 sq_zero3 rfl rfl g i _ _ (by omega)
            (fun q hq => by have := (Kd.R_celln (0 : Int) hRr.out ((i + q : Nat) : Int) (by omega) (by omega)).1; simp only [Int.toNat_natCast] at this; rw [this]; rfl)
            (fun q hq => by have := (Kd.R_celln (0 : Int) hRr.out ((i + q : Nat) : Int) (by omega) (by omega)).2; simpa only [Int.toNat_natCast] using this)
        obtain ⟨zs, hz1, hz2, hz3⟩ := sq_zeros (xs.length - i) i wr ys hRr.out (by omega)
        have HZ := Aside0.mk (show Kd.R (Kd.int .i64) 3 (wr.setCells g i (List.replicate (xs.length - i) (.int .i64 0))) w0.heap.size (fun _ => True) (.slice (some ⟨g, 0, none⟩) i cap) (xs.filter fun x => sq_has l x last) from by
          have := Kd.R_take hz1 (m := i) (by omega)
          rw [hz3, hT.out, hje, List.take_length] at this
          exact this)
        clear hz1 hz3 hz2
        go_wp2
        go_ret
        exact ⟨_, rfl, HZ.out, sq_below_zeros hgb _ _ hBr.out⟩
  · have hnr := sq_nxr_ge l last xs hx
    have hall : sq_nx l last xs = xs.length := by omega
    have HF := Aside0.mk (show (xs.filter fun x => sq_has l x last) = xs from by have := HX.out; rw [hall, List.take_length] at this; exact this)
    clear hall
    go_enter Try.func25, Try.ntmps25
    go_wp2_with (go_at_call 34; refine (sq_IndexInt _ cap xs A c l last pb pl _ (Kd.R_reads' hR).2.2 hxl ((hB.cell lb).trans hb) ((hB.cell ll).trans hl) (Kd.C_below hr hB) hll).mono ?_; rw [hnr]; rintro e w2 ⟨rfl, hB2⟩; have HB2 := Aside0.mk hB2; have HR := Aside0.mk (Kd.R_below hR hB2); clear hB2 hR)
    go_ret
    refine ⟨_, rfl, ?_, hB.trans (HB2.out.mono hB.size)⟩
    rw [HF.out]
    exact HR.out
def sq_of (l : List S32) (xs : List Int) : List Int := if xs.length = 0 then [] else xs.filter fun x => sq_has l x (rd xs ((xs.length : Int) - 1))
set_option maxHeartbeats 2000000 in
theorem sq_Of (A : Option Addr) (c : Nat) (l : List S32) (S : Option Addr) (cs : Nat) (xs : List Int) (w : World) (hr : Kd.C k32 w A l.length l) (hl : l.length ≤ 100000) (hx : Kd.C (Kd.int .i64) w S xs.length xs) (hxl : xs.length ≤ 100000) :
    Calls Try.prog 13 #[.slice A l.length c, .slice S xs.length cs] w fun e w' => ∃ v, e = .returned v ∧ Kd.R (Kd.int .i64) 3 w' w.heap.size (fun _ => True) v (sq_of l xs) ∧ Below w.heap.size w w' := by
  have al1 := below_alloc (Below.refl w.heap.size w) (.cells #[.slice A l.length c] 24)
  have hfn : ∀ (fn : Fn) (first cap : Array Value) (w : World), (Instr.makeFunc fn first cap).run Try.prog w = .ok (.func fn first cap) w := fun _ _ _ _ => rfl
  by_cases h0 : xs.length = 0
  · have hb0 : ((xs.length : Int) == 0) = true := by rw [h0]; rfl
    have hres : sq_of l xs = [] := if_pos h0
    clear h0
    rw [hres]
    go_enter Try.func13, Try.ntmps13
    go_wp2
    go_ret
    exact ⟨_, rfl, Kd.R_nil _ _ _ _ _, al1⟩
  · have hb0 : ((xs.length : Int) == 0) = false := beq_false_of_ne (by omega)
    have hres : sq_of l xs = xs.filter fun x => sq_has l x (rd xs ((xs.length : Int) - 1)) := if_neg h0
    have hlen : 0 < xs.length := by omega
    clear h0
    rw [hres]
    clear hres
    obtain ⟨ad, e1, hx0⟩ := Kd.at_int (Kd.C_below hx al1) ((xs.length : Int) - 1) (by omega) (by omega)
    cases e1
    rw [show ((xs.length : Int) - 1).toNat = xs.length - 1 from by omega] at hx0
    generalize rd xs ((xs.length : Int) - 1) = last at *
    generalize hv1 : Value.slice A l.length c = va at al1 hx0
    have al2 := below_alloc al1 (.cells #[.int .i64 last] 3)
    have n1 := heap_alloc_new w (.cells #[va] 24)
    have n2 := heap_alloc_new (w.alloc (.cells #[va] 24)) (.cells #[.int .i64 last] 3)
    rw [show (w.alloc (.cells #[va] 24)).heap.size = w.heap.size + 1 by simp] at n2
    have m1 := ((below_alloc (Below.refl _ _) (.cells #[.int .i64 last] 3)).block w.heap.size (by simp)).trans n1
    have c1 := cell_of_row _ w.heap.size 0 _ _ _ m1
    have c2 := cell_of_row _ (w.heap.size + 1) 0 _ _ _ n2
    simp only [List.getElem?_toArray, List.getElem?_cons_zero] at c1 c2
    subst hv1
    have hs2 : w.heap.size ≤ ((w.alloc (.cells #[.slice A l.length c] 24)).alloc (.cells #[.int .i64 last] 3)).heap.size := al2.size
    have C1 := Aside0.mk c1
    have C2 := Aside0.mk c2
    have AL := Aside0.mk al2
    clear c1 c2 m1 n1 n2 al1 al2
    go_enter Try.func13, Try.ntmps13
    go_wp2_with fail
    refine (sq_Clone ad cs xs _ (Kd.C_below hx AL.out) hxl).mono ?_
    rintro e w2 ⟨v, rfl, hR, hB⟩
    obtain ⟨g, cap, rfl, _, _, _⟩ := Kd.R_form hR hlen
    have HR := Aside0.mk hR
    have HB := Aside0.mk hB
    clear hR hB
    go_wp2_with (go_at_call 25; refine (sq_DeleteFunc _ A c l last w.heap.size (w.heap.size + 1) C1.out C2.out (Kd.C_below hr AL.out) hl g cap xs _ HB.out HR.out hxl).mono ?_; rintro e w3 ⟨v3, rfl, hR3, hB3⟩; have HR3 := Aside0.mk hR3; have HB3 := Aside0.mk hB3; clear hR3 hB3)
    go_ret
    exact ⟨_, rfl, Kd.R_lower HR3.out hs2, AL.out.trans (HB3.out.mono hs2)⟩
end Go.Proofs.Ytimnfkmjdnmdeaa.P
