-- Written by a program of this session (wip/tools/mk.sh) for this claim: it runs the kit's print with contracts of our own. Lean checks it.
import Derived.Test.YtbjbagocnnffaaaDoorPx0
import Derived.Test.YtbjbagocnnffaaaDoorWRepsOne
import Derived.Test.YtbjbagocnnffaaaDoorZStr
namespace Go.Proofs.YtbjbagocnnffaaaDoor.P
open Go.RowKit Go.Proofs.YtbjbagocnnffaaaDoorW.PrintWords Go.Proofs.YtbjbagocnnffaaaDoorW.PrintLast Go.Proofs.YtbjbagocnnffaaaDoorW.PrintMore
attribute [-simp] Int.tmod_tmod_of_dvd
attribute [local go_sem] max2_int min2_int max_two min_two max_three min_three max_four min_four   -- for this text's walks alone
set_option linter.unusedVariables false
set_option linter.unusedSimpArgs false

/-! ### stringslite_HasPrefix: function 60 -/
def stringslite_HasPrefix.f (a0 : ByteArray) (a1 : ByteArray) : Option (Bool) := if (a0.size : Int) ≥ (a1.size : Int) then (if 0 ≤ (a1.size : Int) then (if (a1.size : Int) ≤ (a0.size : Int) then (some ((a0.extract 0 ((a1.size : Int) : Int).toNat).toList == a1.toList)) else (none)) else (none)) else (some false)
set_option maxHeartbeats 8000000 in
set_option maxRecDepth 100000 in
theorem stringslite_HasPrefix.calls (a0 : ByteArray) (a1 : ByteArray) (r : Bool) (w : World) (h : stringslite_HasPrefix.f a0 a1 = some r) :
  Calls Tryd.prog 60 #[.string a0, .string a1] w fun e w' => e = .returned (.bool r) ∧ Drawn0 w w' := by
 have H : (if (a0.size : Int) ≥ (a1.size : Int) then (if 0 ≤ (a1.size : Int) then (if (a1.size : Int) ≤ (a0.size : Int) then (some ((a0.extract 0 ((a1.size : Int) : Int).toNat).toList == a1.toList)) else (none)) else (none)) else (some false)) = some r := h
 clear h
 by_cases c3 : (a0.size : Int) ≥ (a1.size : Int)
 ·rw [if_pos c3] at H
  have c3b0 : decide ((a1.size : Int) ≤ (a0.size : Int)) = true := decide_eq_true c3
  have c3b1 : decide (a1.size ≤ a0.size) = true := decide_eq_true (Int.ofNat_le.mp c3)
  clear c3
  by_cases c4 : 0 ≤ (a1.size : Int)
  ·rw [if_pos c4] at H
   have c4b0 := eq_true c4
   have c4b1 : decide (0 ≤ (a1.size : Int)) = true := decide_eq_true c4
   clear c4
   by_cases c5 : (a1.size : Int) ≤ (a0.size : Int)
   ·rw [if_pos c5] at H
    have c5b0 := eq_true c5
    have c5b1 : decide ((a1.size : Int) ≤ (a0.size : Int)) = true := decide_eq_true c5
    clear c5
    obtain rfl := Option.some.inj H
    go_enter Tryd.func60, Tryd.ntmps60
    go_wp2
    go_ret
    exact ⟨by first | rfl | (simp; done) | (simp [*]; done), by repeat (first | exact Drawn0.refl _ | apply Drawn0.step)⟩
   ·rw [if_neg c5] at H
    exact absurd H (by simp)
  ·rw [if_neg c4] at H
   exact absurd H (by simp)
 ·rw [if_neg c3] at H
  have c3b0 : decide ((a1.size : Int) ≤ (a0.size : Int)) = false := decide_eq_false c3
  have c3b1 : decide (a1.size ≤ a0.size) = false := decide_eq_false (fun h => c3 (Int.ofNat_le.mpr h))
  clear c3
  obtain rfl := Option.some.inj H
  go_enter Tryd.func60, Tryd.ntmps60
  go_wp2
  go_ret
  exact ⟨by first | rfl | (simp; done) | (simp [*]; done), by repeat (first | exact Drawn0.refl _ | apply Drawn0.step)⟩

/-! ### stringslite_CutPrefix: function 54 -/
def stringslite_CutPrefix.f (a0 : ByteArray) (a1 : ByteArray) : Option (ByteArray × Bool) := (stringslite_HasPrefix.f a0 a1).bind fun t110 => (if t110 = true then (if 0 ≤ (a1.size : Int) then (if (a1.size : Int) ≤ (a0.size : Int) then (some (a0.extract ((a1.size : Int) : Int).toNat a0.size, true)) else (none)) else (none)) else (some (a0, false)))
set_option maxHeartbeats 8000000 in
set_option maxRecDepth 100000 in
theorem stringslite_CutPrefix.calls (a0 : ByteArray) (a1 : ByteArray) (r1 : ByteArray) (r2 : Bool) (w : World) (h : stringslite_CutPrefix.f a0 a1 = some (r1, r2)) :
  Calls Tryd.prog 54 #[.string a0, .string a1] w fun e w' => e = .returned (.tuple #[.string r1, .bool r2]) ∧ Drawn0 w w' := by
 have H : ((stringslite_HasPrefix.f a0 a1).bind fun t110 => (if t110 = true then (if 0 ≤ (a1.size : Int) then (if (a1.size : Int) ≤ (a0.size : Int) then (some (a0.extract ((a1.size : Int) : Int).toNat a0.size, true)) else (none)) else (none)) else (some (a0, false)))) = some (r1, r2) := h
 clear h
 replace H := Option.bind_eq_some_iff.mp H
 obtain ⟨t110, A30, H⟩ := H
 replace H : (if t110 = true then (if 0 ≤ (a1.size : Int) then (if (a1.size : Int) ≤ (a0.size : Int) then (some (a0.extract ((a1.size : Int) : Int).toNat a0.size, true)) else (none)) else (none)) else (some (a0, false))) = some (r1, r2) := H
 have A3 := Aside0.mk A30
 clear A30
 by_cases c4 : t110 = true
 ·subst c4
  have H1 : (if 0 ≤ (a1.size : Int) then (if (a1.size : Int) ≤ (a0.size : Int) then (some (a0.extract ((a1.size : Int) : Int).toNat a0.size, true)) else (none)) else (none)) = some (r1, r2) := by rw [if_pos rfl] at H; exact H
  clear H
  have H := H1
  clear H1
  by_cases c5 : 0 ≤ (a1.size : Int)
  ·rw [if_pos c5] at H
   have c5b0 := eq_true c5
   have c5b1 : decide (0 ≤ (a1.size : Int)) = true := decide_eq_true c5
   clear c5
   by_cases c6 : (a1.size : Int) ≤ (a0.size : Int)
   ·rw [if_pos c6] at H
    have c6b0 := eq_true c6
    have c6b1 : decide ((a1.size : Int) ≤ (a0.size : Int)) = true := decide_eq_true c6
    clear c6
    simp only [Option.some.injEq, Prod.mk.injEq] at H
    obtain ⟨rfl, rfl⟩ := H
    go_enter Tryd.func54, Tryd.ntmps54
    go_wp2_with (first | ((with_reducible refine gate_callee (f := 60) rfl ?_); refine goesL_ (some 8) rfl rfl Tryd.func60 (by kernel_rfl) rfl #[.string a0, .string a1] rfl qa_ ?_; (with_reducible refine (stringslite_HasPrefix.calls a0 a1 true _ A3.out).mono ?_); rintro e w' ⟨rfl, ⟨nd, rfl⟩⟩; refine ⟨_, rfl, ?_⟩))
    go_ret2
    exact ⟨by first | rfl | (simp; done) | (simp [*]; done), by repeat (first | exact Drawn0.refl _ | apply Drawn0.step)⟩
   ·rw [if_neg c6] at H
    exact absurd H (by simp)
  ·rw [if_neg c5] at H
   exact absurd H (by simp)
 ·replace c4 := Bool.eq_false_iff.mpr c4
  subst c4
  have H1 : (some (a0, false)) = some (r1, r2) := by rw [if_neg (show ¬ (false = true) by decide)] at H; exact H
  clear H
  have H := H1
  clear H1
  simp only [Option.some.injEq, Prod.mk.injEq] at H
  obtain ⟨rfl, rfl⟩ := H
  go_enter Tryd.func54, Tryd.ntmps54
  go_wp2_with (first | ((with_reducible refine gate_callee (f := 60) rfl ?_); refine goesL_ (some 8) rfl rfl Tryd.func60 (by kernel_rfl) rfl #[.string a0, .string a1] rfl qa_ ?_; (with_reducible refine (stringslite_HasPrefix.calls a0 a1 false _ A3.out).mono ?_); rintro e w' ⟨rfl, ⟨nd, rfl⟩⟩; refine ⟨_, rfl, ?_⟩))
  go_ret2
  exact ⟨by first | rfl | (simp; done) | (simp [*]; done), by repeat (first | exact Drawn0.refl _ | apply Drawn0.step)⟩

/-! ### strings_CutPrefix: function 42 -/
def strings_CutPrefix.f (a0 : ByteArray) (a1 : ByteArray) : Option (ByteArray × Bool) := (stringslite_CutPrefix.f a0 a1).bind fun bt111 => (some (bt111.1, bt111.2))
set_option maxHeartbeats 8000000 in
set_option maxRecDepth 100000 in
theorem strings_CutPrefix.calls (a0 : ByteArray) (a1 : ByteArray) (r1 : ByteArray) (r2 : Bool) (w : World) (h : strings_CutPrefix.f a0 a1 = some (r1, r2)) :
  Calls Tryd.prog 42 #[.string a0, .string a1] w fun e w' => e = .returned (.tuple #[.string r1, .bool r2]) ∧ Drawn0 w w' := by
 have H : ((stringslite_CutPrefix.f a0 a1).bind fun bt111 => (some (bt111.1, bt111.2))) = some (r1, r2) := h
 clear h
 replace H := Option.bind_eq_some_iff.mp H
 obtain ⟨⟨t111, t112⟩, A30, H⟩ := H
 replace H : (some (t111, t112)) = some (r1, r2) := H
 have A3 := Aside0.mk A30
 clear A30
 simp only [Option.some.injEq, Prod.mk.injEq] at H
 obtain ⟨rfl, rfl⟩ := H
 go_enter Tryd.func42, Tryd.ntmps42
 go_wp2_with (first | ((with_reducible refine gate_callee (f := 54) rfl ?_); refine goesL_ (some 8) rfl rfl Tryd.func54 (by kernel_rfl) rfl #[.string a0, .string a1] rfl qa_ ?_; (with_reducible refine (stringslite_CutPrefix.calls a0 a1 t111 t112 _ A3.out).mono ?_); rintro e w' ⟨rfl, ⟨nd, rfl⟩⟩; refine ⟨_, rfl, ?_⟩))
 go_ret2
 exact ⟨by first | rfl | (simp; done) | (simp [*]; done), by repeat (first | exact Drawn0.refl _ | apply Drawn0.step)⟩

/-- A state of type 50 at block g of W; what its slices lead to came in by w0. -/
def IsS50 (w0 W : World) (g : Nat) (f0 : ByteArray) (f1 : Bool) : Prop := W.heap[g]? = some (.cells #[.string f0, .bool f1] 50 (0, 0)) ∧ w0.heap.size ≤ g
theorem IsS50.grown {w0 W : World} {g : Nat} {f0 : ByteArray} {f1 : Bool} {W1 : World} {row : Option Nat} (h : IsS50 w0 W g f0 f1) (hw : W.grownBy W1 row) (hne : some g ≠ row) : IsS50 w0 W1 g f0 f1 := by
 obtain ⟨hb, hg⟩ := h
 exact ⟨blk_grown hb hw hne, hg⟩
theorem IsS50.own_neN {w0 W : World} {g : Nat} {f0 : ByteArray} {f1 : Bool} {α : Type} {d : Kd α} {e : Nat} {base : Nat} {ok : Nat → Prop} {v : Value} {xs : List α} (h : IsS50 w0 W g f0 f1) (ho : Kd.N d e W base ok v xs) (ht : e ≠ 50) : some g ≠ v.ownBlock := by
 obtain ⟨hb, hg⟩ := h
 exact Kd.N_ne ho hb ht
theorem IsS50.fresh {w0 W : World} {g : Nat} {f0 : ByteArray} {f1 : Bool} (h : IsS50 w0 W g f0 f1) : ∀ k, W.heap.size ≤ k → k ≠ g := by
 obtain ⟨hb, hg⟩ := h
 exact Kd.freshB hb
theorem IsS50.kept {w0 W : World} {g : Nat} {f0 : ByteArray} {f1 : Bool} {W1 : World} {S : Nat → Prop} (h : IsS50 w0 W g f0 f1) (hk : Kept W W1 S) (hne : ¬ S g) : IsS50 w0 W1 g f0 f1 := by
 obtain ⟨hb, hg⟩ := h
 exact ⟨blk_kept hb hk hne, hg⟩
theorem IsS50.below {w0 W : World} {g : Nat} {f0 : ByteArray} {f1 : Bool} {W1 : World} (h : IsS50 w0 W g f0 f1) (hw : Below W.heap.size W W1) : IsS50 w0 W1 g f0 f1 := h.grown (grown_of_below hw none) (by simp)
theorem IsS50.alloc {w0 W : World} {g : Nat} {f0 : ByteArray} {f1 : Bool} (h : IsS50 w0 W g f0 f1) (o : Obj) : IsS50 w0 (W.alloc o) g f0 f1 := h.below (below_alloc (Below.refl _ _) o)
theorem IsS50.drewN {w0 W : World} {g : Nat} {f0 : ByteArray} {f1 : Bool} (h : IsS50 w0 W g f0 f1) (m : Nat) : IsS50 w0 (W.drewN m) g f0 f1 := h
theorem IsS50.drew {w0 W : World} {g : Nat} {f0 : ByteArray} {f1 : Bool} (h : IsS50 w0 W g f0 f1) : IsS50 w0 W.drew g f0 f1 := h
theorem IsS50.at_ {w0 W : World} {g : Nat} {f0 : ByteArray} {f1 : Bool} {w' : World} {m : Nat} (hq : W.drewN m = w') (h : IsS50 w0 W g f0 f1) : IsS50 w0 w' g f0 f1 := by subst hq; exact IsS50.drewN h m
theorem IsS50.apart {w0 W : World} {g : Nat} {f0 : ByteArray} {f1 : Bool} {α : Type} {d : Kd α} {e : Nat} {base : Nat} {ok : Nat → Prop} {v : Value} {xs : List α} (h : IsS50 w0 W g f0 f1) (ho : d.R e W base ok v xs) (ht : ∀ q, q ∈ e :: d.E → q ≠ 50) : d.R e W base (fun k => ok k ∧ k ≠ g) v xs := by
 obtain ⟨hb, hg⟩ := h
 exact Kd.R_types ho hb ht
theorem IsS50.own_ne {w0 W : World} {g : Nat} {f0 : ByteArray} {f1 : Bool} {α : Type} {d : Kd α} {e : Nat} {base : Nat} {ok : Nat → Prop} {v : Value} {xs : List α} (h : IsS50 w0 W g f0 f1) (ho : d.R e W base ok v xs) (ht : e ≠ 50) : some g ≠ v.ownBlock := by
 obtain ⟨hb, hg⟩ := h
 exact Kd.R_ne ho hb ht
theorem IsS50.apartQ {w0 W : World} {g : Nat} {f0 : ByteArray} {f1 : Bool} {α : Type} {d : Kd α} {e : Nat} {base : Nat} {ok : Nat → Prop} {v : Value} {xs : List α} (h : IsS50 w0 W g f0 f1) (ho : d.Q e W base ok v xs) (ht : ∀ q, q ∈ e :: d.E → q ≠ 50) : d.Q e W base (fun k => ok k ∧ k ≠ g) v xs := by
 obtain ⟨hb, hg⟩ := h
 exact Kd.Q_types ho hb ht
theorem IsS50.own_neQ {w0 W : World} {g : Nat} {f0 : ByteArray} {f1 : Bool} {α : Type} {d : Kd α} {e : Nat} {base : Nat} {ok : Nat → Prop} {v : Value} {xs : List α} (h : IsS50 w0 W g f0 f1) (ho : d.Q e W base ok v xs) (ht : e ≠ 50) : some g ≠ v.ownBlock := by
 obtain ⟨hb, hg⟩ := h
 exact Kd.Q_ne ho hb ht
theorem IsS50.apartS {w0 W : World} {g : Nat} {f0 : ByteArray} {f1 : Bool} {α : Type} {d : Kd α} {e : Nat} {base : Nat} {ok : Nat → Prop} {v : Value} {xs : List α} (h : IsS50 w0 W g f0 f1) (ho : d.S e W base ok v xs) (ht : ∀ q, q ∈ e :: d.E → q ≠ 50) : d.S e W base (fun k => ok k ∧ k ≠ g) v xs := by
 obtain ⟨hb, hg⟩ := h
 exact Kd.S_types ho hb ht
theorem IsS50.own_neS {w0 W : World} {g : Nat} {f0 : ByteArray} {f1 : Bool} {α : Type} {d : Kd α} {e : Nat} {base : Nat} {ok : Nat → Prop} {v : Value} {xs : List α} (h : IsS50 w0 W g f0 f1) (ho : d.S e W base ok v xs) (ht : e ≠ 50) : some g ≠ v.ownBlock := by
 obtain ⟨hb, hg⟩ := h
 exact Kd.S_ne ho hb ht
theorem IsS50.lt {w0 W : World} {g : Nat} {f0 : ByteArray} {f1 : Bool} (h : IsS50 w0 W g f0 f1) : g < W.heap.size := by
 obtain ⟨hb, hg⟩ := h
 exact blk_lt hb
theorem IsS50.ge {w0 W : World} {g : Nat} {f0 : ByteArray} {f1 : Bool} (h : IsS50 w0 W g f0 f1) : w0.heap.size ≤ g := by
 obtain ⟨hb, hg⟩ := h
 exact hg
theorem IsS50.ne_blk {w0 W : World} {g : Nat} {f0 : ByteArray} {f1 : Bool} {a : Nat} {cs : Array Value} {t : TypeId} {fr : Nat × Nat} (h : IsS50 w0 W g f0 f1) (hb2 : W.heap[a]? = some (.cells cs t fr)) (ht : t ≠ 50) : g ≠ a := by
 obtain ⟨hb, hg⟩ := h
 rintro rfl
 rw [hb] at hb2
 injection hb2 with hb2
 injection hb2 with _ ht2
 exact ht ht2.symm
theorem IsS50.far {w0 W : World} {g : Nat} {f0 : ByteArray} {f1 : Bool} {p : Addr} (h : IsS50 w0 W g f0 f1) (hne : g ≠ p.block) (u : Value) : IsS50 w0 (W.setCell p u) g f0 f1 := by
 obtain ⟨hb, hg⟩ := h
 exact ⟨blk_far hb hne u, hg⟩
theorem cellS50_0 {W : World} {g : Nat} {f0 : ByteArray} {f1 : Bool} (h : W.heap[g]? = some (.cells #[.string f0, .bool f1] 50 (0, 0))) : W.cell? ⟨g, 0, none⟩ = some (.string f0) := (blk_cell h 0).trans rfl
theorem IsS50.set_0 {w0 W : World} {g : Nat} {f0 : ByteArray} {f1 : Bool} (h : IsS50 w0 W g f0 f1) (x : ByteArray) : IsS50 w0 (W.setCell ⟨g, 0, none⟩ (.string x)) g x f1 := by
 obtain ⟨hb, hg⟩ := h
 exact ⟨by simpa using blk_set hb 0 (.string x), hg⟩
theorem cellS50_1 {W : World} {g : Nat} {f0 : ByteArray} {f1 : Bool} (h : W.heap[g]? = some (.cells #[.string f0, .bool f1] 50 (0, 0))) : W.cell? ⟨g, 1, none⟩ = some (.bool f1) := (blk_cell h 1).trans rfl
theorem IsS50.set_1 {w0 W : World} {g : Nat} {f0 : ByteArray} {f1 : Bool} (h : IsS50 w0 W g f0 f1) (x : Bool) : IsS50 w0 (W.setCell ⟨g, 1, none⟩ (.bool x)) g f0 x := by
 obtain ⟨hb, hg⟩ := h
 exact ⟨by simpa using blk_set hb 1 (.bool x), hg⟩
theorem IsS50.new (w0 W : World) (f0 : ByteArray) (f1 : Bool) (hB : Below w0.heap.size w0 W) : IsS50 w0 (W.alloc (.cells #[.string f0, .bool f1] 50)) W.heap.size f0 f1 := ⟨by simpa using heap_alloc_new W _, hB.size⟩

/-! ### section_reader_is: function 21 -/
def section_reader_is.f (s0_0 : ByteArray) (s0_1 : Bool) (a1 : ByteArray) : Option (Bool × ByteArray × Bool) := (strings_CutPrefix.f s0_0 a1).bind fun bt113 => (if bt113.2 = true then (some (bt113.2, bt113.1, s0_1)) else (some (bt113.2, s0_0, s0_1)))
set_option maxHeartbeats 8000000 in
set_option maxRecDepth 100000 in
theorem section_reader_is.calls (g : Nat) (s0_0 : ByteArray) (s0_1 : Bool) (a1 : ByteArray) (r1 : Bool) (r2 : ByteArray) (r3 : Bool) (w0 w : World) (hI : IsS50 w0 w g s0_0 s0_1) (hB : Below w0.heap.size w0 w) (h : section_reader_is.f s0_0 s0_1 a1 = some (r1, r2, r3)) :
  Calls Tryd.prog 21 #[.pointer (some ⟨g, 0, none⟩), .string a1] w fun e w' => e = .returned (.bool r1) ∧ IsS50 w0 w' g r2 r3 ∧ Below w0.heap.size w0 w' ∧ KeepBut w w' g none := by
 have HI0 := Aside0.mk hI
 have HK := Aside0.mk (KeepBut.refl w g none)
 have HL := Aside0.mk hB.size
 clear hI
 have HW0 := Aside0.mk hB.size
 have HB := Aside0.mk hB
 clear hB
 have H : ((strings_CutPrefix.f s0_0 a1).bind fun bt113 => (if bt113.2 = true then (some (bt113.2, bt113.1, s0_1)) else (some (bt113.2, s0_0, s0_1)))) = some (r1, r2, r3) := h
 clear h
 replace H := Option.bind_eq_some_iff.mp H
 obtain ⟨⟨t113, t114⟩, A30, H⟩ := H
 replace H : (if t114 = true then (some (t114, t113, s0_1)) else (some (t114, s0_0, s0_1))) = some (r1, r2, r3) := H
 have A3 := Aside0.mk A30
 clear A30
 by_cases c4 : t114 = true
 ·subst c4
  have H1 : (some (true, t113, s0_1)) = some (r1, r2, r3) := by rw [if_pos rfl] at H; exact H
  clear H
  have H := H1
  clear H1
  simp only [Option.some.injEq, Prod.mk.injEq] at H
  obtain ⟨rfl, rfl, rfl⟩ := H
  obtain ⟨HGz5, hgz5⟩ := HI0.out
  have hcz5_0 := cellS50_0 HGz5
  have hcz5_1 := cellS50_1 HGz5
  have hfz5_0 := blk_frozen HGz5 0
  have hfz5_1 := blk_frozen HGz5 1
  clear HGz5 hgz5
  go_enter Tryd.func21, Tryd.ntmps21
  go_wp2_with (first | ((with_reducible refine gate_callee (f := 42) rfl ?_); refine goesL_ (some 13) rfl rfl Tryd.func42 (by kernel_rfl) rfl #[.string s0_0, .string a1] rfl qa_ ?_; (with_reducible refine (strings_CutPrefix.calls s0_0 a1 t113 true _ A3.out).mono ?_); rintro e w' ⟨rfl, ⟨nd, rfl⟩⟩; refine ⟨_, rfl, ?_⟩; (try (rw [drewN_self w]; generalize hq_ : World.drewN w _ = wq_; have n0_ : Aside0 (IsS50 w0 wq_ g s0_0 s0_1) := ⟨by rw [← hq_]; exact (by repeat (first | (with_reducible first | exact HI0.out | apply IsS50.alloc | apply IsS50.drewN | apply IsS50.drew | apply IsS50.set_0 | apply IsS50.set_1) | exact HI0.out))⟩; have n1_ : Aside0 (KeepBut w wq_ g none) := ⟨by rw [← hq_]; exact (qh_ HK.out)⟩; have n2_ : Aside0 (Below w0.heap.size w0 wq_) := ⟨by rw [← hq_]; exact (by repeat (first | (with_reducible first | exact HB.out | apply below_alloc | apply pw_below_drewN | apply below_drew1 | refine below_set ?_ (IsS50.ge HI0.out)) | exact HB.out))⟩; clear HI0 HK HB hq_; have HI0 := n0_; have HK := n1_; have HB := n2_; clear n0_ n1_ n2_; (try have hq0_ := cellS50_0 HI0.out.1); (try have hq1_ := cellS50_1 HI0.out.1); (try have hq2_ := blk_frozen HI0.out.1 0); (try have hq3_ := blk_frozen HI0.out.1 1)))))
  go_ret
  exact ⟨qw_, by repeat (first | (with_reducible first | exact HI0.out | apply IsS50.alloc | apply IsS50.drewN | apply IsS50.drew | apply IsS50.set_0 | apply IsS50.set_1) | exact HI0.out), by repeat (first | (with_reducible first | exact HB.out | apply below_alloc | apply pw_below_drewN | apply below_drew1 | refine below_set ?_ (IsS50.ge HI0.out)) | exact HB.out), qh_ HK.out⟩
 ·replace c4 := Bool.eq_false_iff.mpr c4
  subst c4
  have H1 : (some (false, s0_0, s0_1)) = some (r1, r2, r3) := by rw [if_neg (show ¬ (false = true) by decide)] at H; exact H
  clear H
  have H := H1
  clear H1
  simp only [Option.some.injEq, Prod.mk.injEq] at H
  obtain ⟨rfl, rfl, rfl⟩ := H
  obtain ⟨HGz6, hgz6⟩ := HI0.out
  have hcz6_0 := cellS50_0 HGz6
  have hcz6_1 := cellS50_1 HGz6
  have hfz6_0 := blk_frozen HGz6 0
  have hfz6_1 := blk_frozen HGz6 1
  clear HGz6 hgz6
  go_enter Tryd.func21, Tryd.ntmps21
  go_wp2_with (first | ((with_reducible refine gate_callee (f := 42) rfl ?_); refine goesL_ (some 13) rfl rfl Tryd.func42 (by kernel_rfl) rfl #[.string s0_0, .string a1] rfl qa_ ?_; (with_reducible refine (strings_CutPrefix.calls s0_0 a1 t113 false _ A3.out).mono ?_); rintro e w' ⟨rfl, ⟨nd, rfl⟩⟩; refine ⟨_, rfl, ?_⟩))
  go_ret
  exact ⟨qw_, by repeat (first | (with_reducible first | exact HI0.out | apply IsS50.alloc | apply IsS50.drewN | apply IsS50.drew | apply IsS50.set_0 | apply IsS50.set_1) | exact HI0.out), by repeat (first | (with_reducible first | exact HB.out | apply below_alloc | apply pw_below_drewN | apply below_drew1 | refine below_set ?_ (IsS50.ge HI0.out)) | exact HB.out), qh_ HK.out⟩

/-! ### section_reader_need: function 17 -/
def section_reader_need.f (s0_0 : ByteArray) (s0_1 : Bool) (a1 : ByteArray) : Option (ByteArray × Bool) := (section_reader_is.f s0_0 s0_1 a1).bind fun bt115 => (if bt115.1 = true then (some (bt115.2.1, bt115.2.2)) else (some (bt115.2.1, true)))
set_option maxHeartbeats 8000000 in
set_option maxRecDepth 100000 in
theorem section_reader_need.calls (g : Nat) (s0_0 : ByteArray) (s0_1 : Bool) (a1 : ByteArray) (r1 : ByteArray) (r2 : Bool) (w0 w : World) (hI : IsS50 w0 w g s0_0 s0_1) (hB : Below w0.heap.size w0 w) (h : section_reader_need.f s0_0 s0_1 a1 = some (r1, r2)) :
  Calls Tryd.prog 17 #[.pointer (some ⟨g, 0, none⟩), .string a1] w fun e w' => e = .returned (.tuple #[]) ∧ IsS50 w0 w' g r1 r2 ∧ Below w0.heap.size w0 w' ∧ KeepBut w w' g none := by
 have HI0 := Aside0.mk hI
 have HK := Aside0.mk (KeepBut.refl w g none)
 have HL := Aside0.mk hB.size
 clear hI
 have HW0 := Aside0.mk hB.size
 have HB := Aside0.mk hB
 clear hB
 have H : ((section_reader_is.f s0_0 s0_1 a1).bind fun bt115 => (if bt115.1 = true then (some (bt115.2.1, bt115.2.2)) else (some (bt115.2.1, true)))) = some (r1, r2) := h
 clear h
 replace H := Option.bind_eq_some_iff.mp H
 obtain ⟨⟨t115, t116, t117⟩, A30, H⟩ := H
 replace H : (if t115 = true then (some (t116, t117)) else (some (t116, true))) = some (r1, r2) := H
 have A3 := Aside0.mk A30
 clear A30
 by_cases c4 : t115 = true
 ·subst c4
  have H1 : (some (t116, t117)) = some (r1, r2) := by rw [if_pos rfl] at H; exact H
  clear H
  have H := H1
  clear H1
  simp only [Option.some.injEq, Prod.mk.injEq] at H
  obtain ⟨rfl, rfl⟩ := H
  go_enter Tryd.func17, Tryd.ntmps17
  go_wp2_with (first | ((with_reducible refine gate_callee (f := 21) rfl ?_); refine goesL_ (some 7) rfl rfl Tryd.func21 (by kernel_rfl) rfl #[.pointer (some ⟨g, 0, none⟩), .string a1] rfl qa_ ?_; (with_reducible refine (section_reader_is.calls g s0_0 s0_1 a1 true t116 t117 w0 _ ?side1 ?side2 A3.out).mono ?_); (case side1 => repeat (first | (with_reducible first | exact HI0.out | apply IsS50.alloc | apply IsS50.drewN | apply IsS50.drew | apply IsS50.set_0 | apply IsS50.set_1) | exact HI0.out)); (case side2 => repeat (first | (with_reducible first | exact HB.out | apply below_alloc | apply pw_below_drewN | apply below_drew1 | refine below_set ?_ (IsS50.ge HI0.out)) | exact HB.out)); rintro e w5 ⟨rfl, hi, hb, hk⟩; refine ⟨_, rfl, ?_⟩; have n0_ := Aside0.mk (KeepBut.trans (qh_ HK.out) hk (.inl rfl)); have n1_ := Aside0.mk (hb); have n2_ := Aside0.mk (hi); clear HK; clear HB; clear HI0; have HK := n0_; have HB := n1_; have HI0 := n2_; clear n0_ n1_ n2_; (try clear hb); (try clear hb2); (try clear hk); (try clear hi); obtain ⟨HGz6, hgz6⟩ := HI0.out; have hcz6_0 := cellS50_0 HGz6; have hcz6_1 := cellS50_1 HGz6; have hfz6_0 := blk_frozen HGz6 0; have hfz6_1 := blk_frozen HGz6 1; clear HGz6 hgz6))
  first | go_end0 | ((try simp only [Exit.inBlock, Exit.then]); refine bodyPost_ret (results_none rfl _ _ _) rfl ?_)
  exact ⟨qw_, by repeat (first | (with_reducible first | exact HI0.out | apply IsS50.alloc | apply IsS50.drewN | apply IsS50.drew | apply IsS50.set_0 | apply IsS50.set_1) | exact HI0.out), by repeat (first | (with_reducible first | exact HB.out | apply below_alloc | apply pw_below_drewN | apply below_drew1 | refine below_set ?_ (IsS50.ge HI0.out)) | exact HB.out), qh_ HK.out⟩
 ·replace c4 := Bool.eq_false_iff.mpr c4
  subst c4
  have H1 : (some (t116, true)) = some (r1, r2) := by rw [if_neg (show ¬ (false = true) by decide)] at H; exact H
  clear H
  have H := H1
  clear H1
  simp only [Option.some.injEq, Prod.mk.injEq] at H
  obtain ⟨rfl, rfl⟩ := H
  go_enter Tryd.func17, Tryd.ntmps17
  go_wp2_with (first | ((with_reducible refine gate_callee (f := 21) rfl ?_); refine goesL_ (some 7) rfl rfl Tryd.func21 (by kernel_rfl) rfl #[.pointer (some ⟨g, 0, none⟩), .string a1] rfl qa_ ?_; (with_reducible refine (section_reader_is.calls g s0_0 s0_1 a1 false t116 t117 w0 _ ?side1 ?side2 A3.out).mono ?_); (case side1 => repeat (first | (with_reducible first | exact HI0.out | apply IsS50.alloc | apply IsS50.drewN | apply IsS50.drew | apply IsS50.set_0 | apply IsS50.set_1) | exact HI0.out)); (case side2 => repeat (first | (with_reducible first | exact HB.out | apply below_alloc | apply pw_below_drewN | apply below_drew1 | refine below_set ?_ (IsS50.ge HI0.out)) | exact HB.out)); rintro e w7 ⟨rfl, hi, hb, hk⟩; refine ⟨_, rfl, ?_⟩; have n0_ := Aside0.mk (KeepBut.trans (qh_ HK.out) hk (.inl rfl)); have n1_ := Aside0.mk (hb); have n2_ := Aside0.mk (hi); clear HK; clear HB; clear HI0; have HK := n0_; have HB := n1_; have HI0 := n2_; clear n0_ n1_ n2_; (try clear hb); (try clear hb2); (try clear hk); (try clear hi); obtain ⟨HGz8, hgz8⟩ := HI0.out; have hcz8_0 := cellS50_0 HGz8; have hcz8_1 := cellS50_1 HGz8; have hfz8_0 := blk_frozen HGz8 0; have hfz8_1 := blk_frozen HGz8 1; clear HGz8 hgz8))
  first | go_end0 | ((try simp only [Exit.inBlock, Exit.then]); refine bodyPost_ret (results_none rfl _ _ _) rfl ?_)
  exact ⟨qw_, by repeat (first | (with_reducible first | exact HI0.out | apply IsS50.alloc | apply IsS50.drewN | apply IsS50.drew | apply IsS50.set_0 | apply IsS50.set_1) | exact HI0.out), by repeat (first | (with_reducible first | exact HB.out | apply below_alloc | apply pw_below_drewN | apply below_drew1 | refine below_set ?_ (IsS50.ge HI0.out)) | exact HB.out), qh_ HK.out⟩

/-! ### section_digit: function 37 -/
def section_digit.f (a0 : Int) : Option (Bool) := if a0 ≥ 48 then (some (decide (a0 ≤ 57))) else (some false)
set_option maxHeartbeats 8000000 in
set_option maxRecDepth 100000 in
theorem section_digit.calls (a0 : Int) (r : Bool) (w : World) (h : section_digit.f a0 = some r) :
  Calls Tryd.prog 37 #[.int .u8 a0] w fun e w' => e = .returned (.bool r) ∧ Drawn0 w w' := by
 have H : (if a0 ≥ 48 then (some (decide (a0 ≤ 57))) else (some false)) = some r := h
 clear h
 by_cases c2 : a0 ≥ 48
 ·rw [if_pos c2] at H
  have c2b0 : decide (48 ≤ a0) = true := decide_eq_true c2
  clear c2
  obtain rfl := Option.some.inj H
  go_enter Tryd.func37, Tryd.ntmps37
  go_wp2
  go_ret
  exact ⟨by first | rfl | (simp; done) | (simp [*]; done), by repeat (first | exact Drawn0.refl _ | apply Drawn0.step)⟩
 ·rw [if_neg c2] at H
  have c2b0 : decide (48 ≤ a0) = false := decide_eq_false c2
  clear c2
  obtain rfl := Option.some.inj H
  go_enter Tryd.func37, Tryd.ntmps37
  go_wp2
  go_ret
  exact ⟨by first | rfl | (simp; done) | (simp [*]; done), by repeat (first | exact Drawn0.refl _ | apply Drawn0.step)⟩

/-! ### chars_Lower: function 52 -/
def chars_Lower.f (a0 : Int) : Option (Int) := if a0 ≥ 65 then (if a0 ≤ 90 then (some ((((a0 - 65) % 256) + 97) % 256)) else (some a0)) else (some a0)
set_option maxHeartbeats 8000000 in
set_option maxRecDepth 100000 in
theorem chars_Lower.calls (a0 : Int) (r : Int) (w : World) (h : chars_Lower.f a0 = some r) :
  Calls Tryd.prog 52 #[.int .u8 a0] w fun e w' => e = .returned (.int .u8 r) ∧ Drawn0 w w' := by
 have H : (if a0 ≥ 65 then (if a0 ≤ 90 then (some ((((a0 - 65) % 256) + 97) % 256)) else (some a0)) else (some a0)) = some r := h
 clear h
 by_cases c2 : a0 ≥ 65
 ·rw [if_pos c2] at H
  have c2b0 : decide (65 ≤ a0) = true := decide_eq_true c2
  clear c2
  by_cases c3 : a0 ≤ 90
  ·rw [if_pos c3] at H
   have c3b0 : decide (a0 ≤ 90) = true := decide_eq_true c3
   clear c3
   obtain rfl := Option.some.inj H
   go_enter Tryd.func52, Tryd.ntmps52
   go_wp2
   go_ret
   exact ⟨by first | rfl | (simp; done) | (simp [*]; done), by repeat (first | exact Drawn0.refl _ | apply Drawn0.step)⟩
  ·rw [if_neg c3] at H
   have c3b0 : decide (a0 ≤ 90) = false := decide_eq_false c3
   clear c3
   obtain rfl := Option.some.inj H
   go_enter Tryd.func52, Tryd.ntmps52
   go_wp2
   go_ret
   exact ⟨by first | rfl | (simp; done) | (simp [*]; done), by repeat (first | exact Drawn0.refl _ | apply Drawn0.step)⟩
 ·rw [if_neg c2] at H
  have c2b0 : decide (65 ≤ a0) = false := decide_eq_false c2
  clear c2
  obtain rfl := Option.some.inj H
  go_enter Tryd.func52, Tryd.ntmps52
  go_wp2
  go_ret
  exact ⟨by first | rfl | (simp; done) | (simp [*]; done), by repeat (first | exact Drawn0.refl _ | apply Drawn0.step)⟩

/-! ### section_lettered: function 39 -/
def section_lettered.f (a0 : Int) : Option (Bool) := (chars_Lower.f a0).bind fun t118 => (if t118 ≥ 97 then (if t118 ≤ 122 then (some true) else (some (t118 == 46))) else (some (t118 == 46)))
set_option maxHeartbeats 8000000 in
set_option maxRecDepth 100000 in
theorem section_lettered.calls (a0 : Int) (r : Bool) (w : World) (h : section_lettered.f a0 = some r) :
  Calls Tryd.prog 39 #[.int .u8 a0] w fun e w' => e = .returned (.bool r) ∧ Drawn0 w w' := by
 have H : ((chars_Lower.f a0).bind fun t118 => (if t118 ≥ 97 then (if t118 ≤ 122 then (some true) else (some (t118 == 46))) else (some (t118 == 46)))) = some r := h
 clear h
 replace H := Option.bind_eq_some_iff.mp H
 obtain ⟨t118, A20, H⟩ := H
 replace H : (if t118 ≥ 97 then (if t118 ≤ 122 then (some true) else (some (t118 == 46))) else (some (t118 == 46))) = some r := H
 have A2 := Aside0.mk A20
 clear A20
 by_cases c3 : t118 ≥ 97
 ·rw [if_pos c3] at H
  have c3b0 : decide (97 ≤ t118) = true := decide_eq_true c3
  clear c3
  by_cases c4 : t118 ≤ 122
  ·rw [if_pos c4] at H
   have c4b0 : decide (t118 ≤ 122) = true := decide_eq_true c4
   clear c4
   obtain rfl := Option.some.inj H
   go_enter Tryd.func39, Tryd.ntmps39
   go_wp2_with (first | ((with_reducible refine gate_callee (f := 52) rfl ?_); refine goesL_ (some 4) rfl rfl Tryd.func52 (by kernel_rfl) rfl #[.int .u8 a0] rfl qa_ ?_; (with_reducible refine (chars_Lower.calls a0 t118 _ A2.out).mono ?_); rintro e w' ⟨rfl, ⟨nd, rfl⟩⟩; refine ⟨_, rfl, ?_⟩))
   go_ret
   exact ⟨by first | rfl | (simp; done) | (simp [*]; done), by repeat (first | exact Drawn0.refl _ | apply Drawn0.step)⟩
  ·rw [if_neg c4] at H
   have c4b0 : decide (t118 ≤ 122) = false := decide_eq_false c4
   clear c4
   obtain rfl := Option.some.inj H
   go_enter Tryd.func39, Tryd.ntmps39
   go_wp2_with (first | ((with_reducible refine gate_callee (f := 52) rfl ?_); refine goesL_ (some 4) rfl rfl Tryd.func52 (by kernel_rfl) rfl #[.int .u8 a0] rfl qa_ ?_; (with_reducible refine (chars_Lower.calls a0 t118 _ A2.out).mono ?_); rintro e w' ⟨rfl, ⟨nd, rfl⟩⟩; refine ⟨_, rfl, ?_⟩))
   go_ret
   exact ⟨by first | rfl | (simp; done) | (simp [*]; done), by repeat (first | exact Drawn0.refl _ | apply Drawn0.step)⟩
 ·rw [if_neg c3] at H
  have c3b0 : decide (97 ≤ t118) = false := decide_eq_false c3
  clear c3
  obtain rfl := Option.some.inj H
  go_enter Tryd.func39, Tryd.ntmps39
  go_wp2_with (first | ((with_reducible refine gate_callee (f := 52) rfl ?_); refine goesL_ (some 4) rfl rfl Tryd.func52 (by kernel_rfl) rfl #[.int .u8 a0] rfl qa_ ?_; (with_reducible refine (chars_Lower.calls a0 t118 _ A2.out).mono ?_); rintro e w' ⟨rfl, ⟨nd, rfl⟩⟩; refine ⟨_, rfl, ?_⟩))
  go_ret
  exact ⟨by first | rfl | (simp; done) | (simp [*]; done), by repeat (first | exact Drawn0.refl _ | apply Drawn0.step)⟩

/-! ### chars_in: function 58 -/
def chars_in.ascii (s : ByteArray) : Bool := s.data.toList.all fun b => b.toNat < 128
def chars_in.f (a0 : ByteArray) (a1 : Int) : Option Bool := if chars_in.ascii a0 = true ∧ 0 ≤ a1 ∧ a1 < 256 then some (a0.data.toList.any fun b => (b.toNat : Int) == a1) else none
def chars_in.posOf (w wr : World) : Nat := match wr.heap[w.heap.size]? with | some (.stringIter _ p) => p | _ => 0
theorem chars_in.posOf_iter (w : World) (s : ByteArray) (p : Nat) : chars_in.posOf w (w.iter s p) = p := by
  simp only [chars_in.posOf, World.iter_heap]
set_option maxHeartbeats 2000000 in
theorem chars_in.calls (a0 : ByteArray) (a1 : Int) (r : Bool) (w : World) (h : chars_in.f a0 a1 = some r) :
    Calls Tryd.prog 58 #[.string a0, .int .u8 a1] w fun e w' => e = .returned (.bool r) ∧ Below w.heap.size w w' := by
  unfold chars_in.f at h
  by_cases hh : chars_in.ascii a0 = true ∧ 0 ≤ a1 ∧ a1 < 256
  case neg => rw [if_neg hh] at h; exact absurd h (by simp)
  rw [if_pos hh] at h
  have hr := Option.some.inj h
  clear h
  obtain ⟨has, h0, h1⟩ := hh
  have hw : IntKind.i32.wrap a1 = a1 := by rw [IntKind.wrap_i32]; omega
  have hasc : ∀ (p : Nat) (hp : p < a0.size), (a0[p]'hp).toNat < 128 := by
    intro p hp
    have := List.all_eq_true.mp has (a0[p]'hp) (Array.mem_toList_iff.mpr (Array.getElem_mem (xs := a0.data) hp))
    simpa using this
  go_enter Tryd.func58, Tryd.ntmps58
  go_wp2
  go_loopw [6] (fun v6 wr => ∃ pos : Nat, pos ≤ a0.size ∧ wr = w.iter a0 pos ∧ ∀ (j : Nat) (hj : j < a0.size), j < pos → ((a0[j]'hj).toNat : Int) ≠ a1) (fun _ wr => a0.size - chars_in.posOf w wr)
  case atStart => exact ⟨0, Nat.zero_le _, rfl, fun j hj h => absurd h (Nat.not_lt_zero _)⟩
  case round =>
    obtain ⟨pos, hp, rfl, hj⟩ := hrel
    by_cases hlt : pos < a0.size
    · have hn := run_next_ascii (P := Tryd.prog) w a0 pos 0 hlt (hasc pos hlt)
      by_cases he : ((a0[pos]'hlt).toNat : Int) = a1
      · have hd : decide (((a0[pos]'hlt).toNat : Int) = a1) = true := decide_eq_true he
        go_wp2
        go_ret
        refine ⟨?_, (Below.refl _ _).alloc (Nat.le_refl _) _⟩
        rw [← hr]
        have : (a0.data.toList.any fun b => (b.toNat : Int) == a1) = true := List.any_eq_true.mpr ⟨_, Array.mem_toList_iff.mpr (Array.getElem_mem (xs := a0.data) hlt), beq_iff_eq.mpr he⟩
        rw [this]; rfl
      · have hd : decide (((a0[pos]'hlt).toNat : Int) = a1) = false := decide_eq_false he
        go_wp2
        go_roundw
        case measure => rw [chars_in.posOf_iter, chars_in.posOf_iter]; omega
        case rel =>
        refine ⟨pos + 1, hlt, rfl, fun j h2 h3 => ?_⟩
        by_cases e : j = pos
        · subst e; exact he
        · exact hj j h2 (by omega)
    · have hn := run_next_end (P := Tryd.prog) w a0 pos 0 hlt
      go_wp2
      go_ret
      refine ⟨?_, (Below.refl _ _).alloc (Nat.le_refl _) _⟩
      rw [← hr]
      have : (a0.data.toList.any fun b => (b.toNat : Int) == a1) = false := by
        rw [List.any_eq_false]
        intro b hb
        obtain ⟨i, hi, rfl⟩ := List.getElem_of_mem hb
        have hi2 : i < a0.size := by simpa using hi
        have := hj i hi2 (by omega)
        simp only [beq_iff_eq]
        exact this
      rw [this]; rfl

/-! ### chars_Atom: function 50 -/
def chars_Atom.f (a0 : Int) : Option (Bool) := if a0 ≥ 33 then (if a0 ≤ 126 then ((chars_in.f (⟨#[40, 41, 123, 37, 42, 34, 92, 93]⟩ : ByteArray) a0).bind fun t119 => (some (!t119))) else (some false)) else (some false)
set_option maxHeartbeats 8000000 in
set_option maxRecDepth 100000 in
theorem chars_Atom.calls (a0 : Int) (r : Bool) (w : World) (h : chars_Atom.f a0 = some r) :
  Calls Tryd.prog 50 #[.int .u8 a0] w fun e w' => e = .returned (.bool r) ∧ Below w.heap.size w w' := by
 have HB := Aside0.mk (Below.refl w.heap.size w)
 have H : (if a0 ≥ 33 then (if a0 ≤ 126 then ((chars_in.f (⟨#[40, 41, 123, 37, 42, 34, 92, 93]⟩ : ByteArray) a0).bind fun t119 => (some (!t119))) else (some false)) else (some false)) = some r := h
 clear h
 by_cases c2 : a0 ≥ 33
 ·rw [if_pos c2] at H
  have c2b0 : decide (33 ≤ a0) = true := decide_eq_true c2
  clear c2
  by_cases c3 : a0 ≤ 126
  ·rw [if_pos c3] at H
   have c3b0 : decide (a0 ≤ 126) = true := decide_eq_true c3
   clear c3
   replace H := Option.bind_eq_some_iff.mp H
   obtain ⟨t119, A40, H⟩ := H
   replace H : (some (!t119)) = some r := H
   have A4 := Aside0.mk A40
   clear A40
   obtain rfl := Option.some.inj H
   go_enter Tryd.func50, Tryd.ntmps50
   go_wp2_with (first | (go_at_call 58; (with_reducible refine (chars_in.calls (⟨#[40, 41, 123, 37, 42, 34, 92, 93]⟩ : ByteArray) a0 t119 _ A4.out).mono ?_); rintro e w5 ⟨rfl, hb⟩; have n0_ := Aside0.mk (below_step (qb_ HB.out) hb); clear HB; have HB := n0_; clear n0_; (try clear hb); (try clear hb2); (try clear hk); (try clear hi)))
   go_ret
   exact ⟨qw_, qb_ HB.out⟩
  ·rw [if_neg c3] at H
   have c3b0 : decide (a0 ≤ 126) = false := decide_eq_false c3
   clear c3
   obtain rfl := Option.some.inj H
   go_enter Tryd.func50, Tryd.ntmps50
   go_wp2
   go_ret
   exact ⟨qw_, qb_ HB.out⟩
 ·rw [if_neg c2] at H
  have c2b0 : decide (33 ≤ a0) = false := decide_eq_false c2
  clear c2
  obtain rfl := Option.some.inj H
  go_enter Tryd.func50, Tryd.ntmps50
  go_wp2
  go_ret
  exact ⟨qw_, qb_ HB.out⟩

/-! ### section_reader_run: function 38 -/
def rdr_is (n : Nat) (c : Int) : Bool := if n = 37 then (section_digit.f c).getD false else if n = 39 then (section_lettered.f c).getD false else (chars_Atom.f c).getD false
def rdr_n (p : Int → Bool) : List Int → Nat
  | [] => 0
  | c :: t => if p c = true then rdr_n p t + 1 else 0
def section_reader_run.f (s0_0 : ByteArray) (s0_1 : Bool) (a1 : Nat) : Option (ByteArray × ByteArray × Bool) :=
  if (a1 = 37 ∨ a1 = 39 ∨ a1 = 50) ∧ s0_0.size ≤ 100000000 then some (s0_0.extract 0 (rdr_n (rdr_is a1) (bytesOf s0_0)), s0_0.extract (rdr_n (rdr_is a1) (bytesOf s0_0)) s0_0.size, s0_1) else none
theorem rdr_rd (l : List Int) (i : Nat) (h : i < l.length) : rd l (i : Int) = l[i] := by
  unfold rd
  rw [Int.toNat_natCast, List.getD_eq_getElem?_getD, List.getElem?_eq_getElem h]; rfl
theorem rdr_at (p : Int → Bool) : ∀ (l : List Int) (k : Nat), k ≤ l.length → (∀ j : Nat, j < k → p (rd l (j : Int)) = true) → (k = l.length ∨ p (rd l (k : Int)) = false) → rdr_n p l = k
  | [], k, h, _, _ => by simp at h; subst h; rfl
  | x :: t, 0, _, _, h => by
    rcases h with h | h
    · simp at h
    · have h : p x = false := h
      unfold rdr_n; rw [if_neg (by rw [h]; decide)]
  | x :: t, k + 1, hk, hn, h => by
    have h0 : p x = true := hn 0 (by omega)
    unfold rdr_n
    rw [if_pos h0, rdr_at p t k (by simp at hk; omega) (fun j hj => hn (j + 1) (by omega)) (h.elim (fun h => .inl (by simp at h; exact h)) (fun h => .inr h))]
theorem rdr_byte (s : ByteArray) (x : Int) (h0 : 0 ≤ x) (h : x < (s.size : Int)) : 0 ≤ bt s x ∧ bt s x ≤ 255 := by
  have hs := Go.Proofs.YtbjbagocnnffaaaDoor.Aids.size_bytes s
  obtain ⟨k, rfl⟩ := Int.eq_ofNat_of_zero_le h0
  rw [Go.Proofs.YtbjbagocnnffaaaDoor.Aids.bt_bytes, rdr_rd _ k (by omega)]
  exact Go.Proofs.YtbjbagocnnffaaaDoor.Aids.byte_of _ (List.getElem_mem (by omega))
theorem rdr_digits : ∀ c : Fin 256, (section_digit.f ((c.val : Nat) : Int)).isSome = true := by decide +kernel
theorem rdr_letters : ∀ c : Fin 256, (section_lettered.f ((c.val : Nat) : Int)).isSome = true := by decide +kernel
theorem rdr_atoms : ∀ c : Fin 256, (chars_Atom.f ((c.val : Nat) : Int)).isSome = true := by decide +kernel
theorem rdr_some {o : Option Bool} (h : o.isSome = true) : o = some (o.getD false) := by cases o with | none => cases h | some r => rfl
theorem rdr_digit (c : Int) (hc : 0 ≤ c ∧ c ≤ 255) (w : World) : Calls Tryd.prog 37 #[.int .u8 c] w fun e w' => e = .returned (.bool (rdr_is 37 c)) ∧ Below w.heap.size w w' := by
  have h := rdr_some (rdr_digits ⟨c.toNat, by omega⟩)
  rw [show (((⟨c.toNat, by omega⟩ : Fin 256).val : Nat) : Int) = c by simp; omega] at h
  exact (section_digit.calls c _ w h).mono fun e w' ⟨he, hw⟩ => ⟨he, Drawn0.below hw⟩
theorem rdr_letter (c : Int) (hc : 0 ≤ c ∧ c ≤ 255) (w : World) : Calls Tryd.prog 39 #[.int .u8 c] w fun e w' => e = .returned (.bool (rdr_is 39 c)) ∧ Below w.heap.size w w' := by
  have h := rdr_some (rdr_letters ⟨c.toNat, by omega⟩)
  rw [show (((⟨c.toNat, by omega⟩ : Fin 256).val : Nat) : Int) = c by simp; omega] at h
  exact (section_lettered.calls c _ w h).mono fun e w' ⟨he, hw⟩ => ⟨he, Drawn0.below hw⟩
theorem rdr_atom (c : Int) (hc : 0 ≤ c ∧ c ≤ 255) (w : World) : Calls Tryd.prog 50 #[.int .u8 c] w fun e w' => e = .returned (.bool (rdr_is 50 c)) ∧ Below w.heap.size w w' := by
  have h := rdr_some (rdr_atoms ⟨c.toNat, by omega⟩)
  rw [show (((⟨c.toNat, by omega⟩ : Fin 256).val : Nat) : Int) = c by simp; omega] at h
  exact chars_Atom.calls c _ w h
set_option maxHeartbeats 4000000 in
theorem rdr_run_digit (g : Nat) (s : ByteArray) (b : Bool) (w0 w : World) (hI : IsS50 w0 w g s b) (hB : Below w0.heap.size w0 w) (hs : s.size ≤ 100000000) :
    Calls Tryd.prog 38 #[.pointer (some ⟨g, 0, none⟩), .func (.func 37) #[] #[]] w fun e w' => e = .returned (.string (s.extract 0 (rdr_n (rdr_is 37) (bytesOf s)))) ∧ IsS50 w0 w' g (s.extract (rdr_n (rdr_is 37) (bytesOf s)) s.size) b ∧ Below w0.heap.size w0 w' ∧ KeepBut w w' g none := by
  have HI := Aside0.mk hI
  have HB := Aside0.mk hB
  have hsz := Go.Proofs.YtbjbagocnnffaaaDoor.Aids.size_bytes s
  clear hI hB
  go_enter Tryd.func38, Tryd.ntmps38
  go_wp2
  go_loopw [5] (fun v5 wr => ∃ x : Int, v5 = .int .i64 x ∧ Aside0 (0 ≤ x ∧ x ≤ (s.size : Int)) ∧ Aside0 (Below w.heap.size w wr) ∧ Aside0 (∀ j : Nat, j < x.toNat → rdr_is 37 (bt s (j : Int)) = true)) (fun v5 _ => s.size - (intOf v5).toNat)
  case atStart => exact ⟨0, rfl, ⟨by omega⟩, ⟨Below.refl _ _⟩, ⟨fun j hj => by simp at hj⟩⟩
  case round =>
    obtain ⟨x, rfl, hk, hBw, hn⟩ := hrel
    have h0 := hk.out.1
    have h1 := hk.out.2
    have I1 := HI.out.below hBw.out
    have c0 := cellS50_0 I1.1
    have f0 := blk_frozen I1.1 0
    have HI1 := Aside0.mk I1
    clear I1
    have fin_ : ∀ (w2 : World), Below w.heap.size w w2 → rdr_n (rdr_is 37) (bytesOf s) = x.toNat → IsS50 w0 (w2.setCell ⟨g, 0, none⟩ (.string (s.extract x.toNat s.size))) g (s.extract (rdr_n (rdr_is 37) (bytesOf s)) s.size) b ∧ Below w0.heap.size w0 (w2.setCell ⟨g, 0, none⟩ (.string (s.extract x.toNat s.size))) ∧ KeepBut w (w2.setCell ⟨g, 0, none⟩ (.string (s.extract x.toNat s.size))) g none := by
      intro w2 hw2 he
      rw [he]
      exact ⟨(HI.out.below hw2).set_0 _, (HB.out.trans (hw2.mono HB.out.size)).setCell HI.out.2 _, (KeepBut.of_below hw2 g none).set_ 0 _⟩
    by_cases hlt : x < (s.size : Int)
    · have hb : decide (x < (s.size : Int)) = true := decide_eq_true hlt
      have hx := bt_at s x
      have p4 := eq_true h0
      have q4 := eq_true hlt
      have HW := Aside0.mk (rdr_digit (bt s x) (rdr_byte s x h0 hlt))
      cases hv : rdr_is 37 (bt s x) with
      | true =>
        rw [hv] at HW
        have HV := Aside0.mk hv
        have HX := Aside0.mk hlt
        clear hv hlt h0 h1 fin_
        go_wp2_with (go_at_call 37; refine (HW.out _).mono ?_; rintro e w2 ⟨rfl, hB2⟩; have HB2 := Aside0.mk hB2; clear hB2)
        go_roundw
        case rel => exact ⟨x + 1, by have h0 := hk.out.1; have h1 := HX.out; have e : wrap64 (x + 1) = x + 1 := (by unfold wrap64; omega); first | (rw [e]; done) | rfl | (simp [e]; done), ⟨by have h0 := hk.out.1; have h1 := HX.out; omega⟩, ⟨hBw.out.trans (HB2.out.mono hBw.out.size)⟩, ⟨fun j hj => by
          have h0 := hk.out.1
          by_cases e : j = x.toNat
          · subst e; rw [Int.toNat_of_nonneg h0]; exact HV.out
          · exact hn.out j (by omega)⟩⟩
        case measure => have h0 := hk.out.1; have h1 := HX.out; have e : wrap64 (x + 1) = x + 1 := (by unfold wrap64; omega); simp only [intOf, e]; omega
      | false =>
        rw [hv] at HW
        have he : rdr_n (rdr_is 37) (bytesOf s) = x.toNat := rdr_at _ _ _ (by omega) (fun j hj => by have := hn.out j hj; rwa [Go.Proofs.YtbjbagocnnffaaaDoor.Aids.bt_bytes] at this) (.inr (by rw [Int.toNat_of_nonneg h0, ← Go.Proofs.YtbjbagocnnffaaaDoor.Aids.bt_bytes]; exact hv))
        have HE := Aside0.mk he
        have HFN := Aside0.mk fin_
        have p5 : x ≤ (s.size : Int) := by omega
        clear hv fin_ he
        go_wp2_with (go_at_call 37; refine (HW.out _).mono ?_; rintro e w2 ⟨rfl, hB2⟩; have HB2 := Aside0.mk hB2; have k0 := cellS50_0 (HI1.out.below hB2).1; have k1 := blk_frozen (HI1.out.below hB2).1 0; clear hB2)
        go_ret
        have F := HFN.out w2 (hBw.out.trans (HB2.out.mono hBw.out.size)) HE.out
        exact ⟨by rw [HE.out]; first | rfl | simp, F⟩
    · have hb : decide (x < (s.size : Int)) = false := decide_eq_false hlt
      have he : rdr_n (rdr_is 37) (bytesOf s) = x.toNat := rdr_at _ _ _ (by omega) (fun j hj => by have := hn.out j hj; rwa [Go.Proofs.YtbjbagocnnffaaaDoor.Aids.bt_bytes] at this) (.inl (by omega))
      have HE := Aside0.mk he
      have HFN := Aside0.mk fin_
      have p5 : x ≤ (s.size : Int) := h1
      clear fin_ he
      go_wp2
      go_ret
      have F := HFN.out wr hBw.out HE.out
      exact ⟨by rw [HE.out]; first | rfl | simp, F⟩
set_option maxHeartbeats 4000000 in
theorem rdr_run_letter (g : Nat) (s : ByteArray) (b : Bool) (w0 w : World) (hI : IsS50 w0 w g s b) (hB : Below w0.heap.size w0 w) (hs : s.size ≤ 100000000) :
    Calls Tryd.prog 38 #[.pointer (some ⟨g, 0, none⟩), .func (.func 39) #[] #[]] w fun e w' => e = .returned (.string (s.extract 0 (rdr_n (rdr_is 39) (bytesOf s)))) ∧ IsS50 w0 w' g (s.extract (rdr_n (rdr_is 39) (bytesOf s)) s.size) b ∧ Below w0.heap.size w0 w' ∧ KeepBut w w' g none := by
  have HI := Aside0.mk hI
  have HB := Aside0.mk hB
  have hsz := Go.Proofs.YtbjbagocnnffaaaDoor.Aids.size_bytes s
  clear hI hB
  go_enter Tryd.func38, Tryd.ntmps38
  go_wp2
  go_loopw [5] (fun v5 wr => ∃ x : Int, v5 = .int .i64 x ∧ Aside0 (0 ≤ x ∧ x ≤ (s.size : Int)) ∧ Aside0 (Below w.heap.size w wr) ∧ Aside0 (∀ j : Nat, j < x.toNat → rdr_is 39 (bt s (j : Int)) = true)) (fun v5 _ => s.size - (intOf v5).toNat)
  case atStart => exact ⟨0, rfl, ⟨by omega⟩, ⟨Below.refl _ _⟩, ⟨fun j hj => by simp at hj⟩⟩
  case round =>
    obtain ⟨x, rfl, hk, hBw, hn⟩ := hrel
    have h0 := hk.out.1
    have h1 := hk.out.2
    have I1 := HI.out.below hBw.out
    have c0 := cellS50_0 I1.1
    have f0 := blk_frozen I1.1 0
    have HI1 := Aside0.mk I1
    clear I1
    have fin_ : ∀ (w2 : World), Below w.heap.size w w2 → rdr_n (rdr_is 39) (bytesOf s) = x.toNat → IsS50 w0 (w2.setCell ⟨g, 0, none⟩ (.string (s.extract x.toNat s.size))) g (s.extract (rdr_n (rdr_is 39) (bytesOf s)) s.size) b ∧ Below w0.heap.size w0 (w2.setCell ⟨g, 0, none⟩ (.string (s.extract x.toNat s.size))) ∧ KeepBut w (w2.setCell ⟨g, 0, none⟩ (.string (s.extract x.toNat s.size))) g none := by
      intro w2 hw2 he
      rw [he]
      exact ⟨(HI.out.below hw2).set_0 _, (HB.out.trans (hw2.mono HB.out.size)).setCell HI.out.2 _, (KeepBut.of_below hw2 g none).set_ 0 _⟩
    by_cases hlt : x < (s.size : Int)
    · have hb : decide (x < (s.size : Int)) = true := decide_eq_true hlt
      have hx := bt_at s x
      have p4 := eq_true h0
      have q4 := eq_true hlt
      have HW := Aside0.mk (rdr_letter (bt s x) (rdr_byte s x h0 hlt))
      cases hv : rdr_is 39 (bt s x) with
      | true =>
        rw [hv] at HW
        have HV := Aside0.mk hv
        have HX := Aside0.mk hlt
        clear hv hlt h0 h1 fin_
        go_wp2_with (go_at_call 39; refine (HW.out _).mono ?_; rintro e w2 ⟨rfl, hB2⟩; have HB2 := Aside0.mk hB2; clear hB2)
        go_roundw
        case rel => exact ⟨x + 1, by have h0 := hk.out.1; have h1 := HX.out; have e : wrap64 (x + 1) = x + 1 := (by unfold wrap64; omega); first | (rw [e]; done) | rfl | (simp [e]; done), ⟨by have h0 := hk.out.1; have h1 := HX.out; omega⟩, ⟨hBw.out.trans (HB2.out.mono hBw.out.size)⟩, ⟨fun j hj => by
          have h0 := hk.out.1
          by_cases e : j = x.toNat
          · subst e; rw [Int.toNat_of_nonneg h0]; exact HV.out
          · exact hn.out j (by omega)⟩⟩
        case measure => have h0 := hk.out.1; have h1 := HX.out; have e : wrap64 (x + 1) = x + 1 := (by unfold wrap64; omega); simp only [intOf, e]; omega
      | false =>
        rw [hv] at HW
        have he : rdr_n (rdr_is 39) (bytesOf s) = x.toNat := rdr_at _ _ _ (by omega) (fun j hj => by have := hn.out j hj; rwa [Go.Proofs.YtbjbagocnnffaaaDoor.Aids.bt_bytes] at this) (.inr (by rw [Int.toNat_of_nonneg h0, ← Go.Proofs.YtbjbagocnnffaaaDoor.Aids.bt_bytes]; exact hv))
        have HE := Aside0.mk he
        have HFN := Aside0.mk fin_
        have p5 : x ≤ (s.size : Int) := by omega
        clear hv fin_ he
        go_wp2_with (go_at_call 39; refine (HW.out _).mono ?_; rintro e w2 ⟨rfl, hB2⟩; have HB2 := Aside0.mk hB2; have k0 := cellS50_0 (HI1.out.below hB2).1; have k1 := blk_frozen (HI1.out.below hB2).1 0; clear hB2)
        go_ret
        have F := HFN.out w2 (hBw.out.trans (HB2.out.mono hBw.out.size)) HE.out
        exact ⟨by rw [HE.out]; first | rfl | simp, F⟩
    · have hb : decide (x < (s.size : Int)) = false := decide_eq_false hlt
      have he : rdr_n (rdr_is 39) (bytesOf s) = x.toNat := rdr_at _ _ _ (by omega) (fun j hj => by have := hn.out j hj; rwa [Go.Proofs.YtbjbagocnnffaaaDoor.Aids.bt_bytes] at this) (.inl (by omega))
      have HE := Aside0.mk he
      have HFN := Aside0.mk fin_
      have p5 : x ≤ (s.size : Int) := h1
      clear fin_ he
      go_wp2
      go_ret
      have F := HFN.out wr hBw.out HE.out
      exact ⟨by rw [HE.out]; first | rfl | simp, F⟩
set_option maxHeartbeats 4000000 in
theorem rdr_run_atom (g : Nat) (s : ByteArray) (b : Bool) (w0 w : World) (hI : IsS50 w0 w g s b) (hB : Below w0.heap.size w0 w) (hs : s.size ≤ 100000000) :
    Calls Tryd.prog 38 #[.pointer (some ⟨g, 0, none⟩), .func (.func 50) #[] #[]] w fun e w' => e = .returned (.string (s.extract 0 (rdr_n (rdr_is 50) (bytesOf s)))) ∧ IsS50 w0 w' g (s.extract (rdr_n (rdr_is 50) (bytesOf s)) s.size) b ∧ Below w0.heap.size w0 w' ∧ KeepBut w w' g none := by
  have HI := Aside0.mk hI
  have HB := Aside0.mk hB
  have hsz := Go.Proofs.YtbjbagocnnffaaaDoor.Aids.size_bytes s
  clear hI hB
  go_enter Tryd.func38, Tryd.ntmps38
  go_wp2
  go_loopw [5] (fun v5 wr => ∃ x : Int, v5 = .int .i64 x ∧ Aside0 (0 ≤ x ∧ x ≤ (s.size : Int)) ∧ Aside0 (Below w.heap.size w wr) ∧ Aside0 (∀ j : Nat, j < x.toNat → rdr_is 50 (bt s (j : Int)) = true)) (fun v5 _ => s.size - (intOf v5).toNat)
  case atStart => exact ⟨0, rfl, ⟨by omega⟩, ⟨Below.refl _ _⟩, ⟨fun j hj => by simp at hj⟩⟩
  case round =>
    obtain ⟨x, rfl, hk, hBw, hn⟩ := hrel
    have h0 := hk.out.1
    have h1 := hk.out.2
    have I1 := HI.out.below hBw.out
    have c0 := cellS50_0 I1.1
    have f0 := blk_frozen I1.1 0
    have HI1 := Aside0.mk I1
    clear I1
    have fin_ : ∀ (w2 : World), Below w.heap.size w w2 → rdr_n (rdr_is 50) (bytesOf s) = x.toNat → IsS50 w0 (w2.setCell ⟨g, 0, none⟩ (.string (s.extract x.toNat s.size))) g (s.extract (rdr_n (rdr_is 50) (bytesOf s)) s.size) b ∧ Below w0.heap.size w0 (w2.setCell ⟨g, 0, none⟩ (.string (s.extract x.toNat s.size))) ∧ KeepBut w (w2.setCell ⟨g, 0, none⟩ (.string (s.extract x.toNat s.size))) g none := by
      intro w2 hw2 he
      rw [he]
      exact ⟨(HI.out.below hw2).set_0 _, (HB.out.trans (hw2.mono HB.out.size)).setCell HI.out.2 _, (KeepBut.of_below hw2 g none).set_ 0 _⟩
    by_cases hlt : x < (s.size : Int)
    · have hb : decide (x < (s.size : Int)) = true := decide_eq_true hlt
      have hx := bt_at s x
      have p4 := eq_true h0
      have q4 := eq_true hlt
      have HW := Aside0.mk (rdr_atom (bt s x) (rdr_byte s x h0 hlt))
      cases hv : rdr_is 50 (bt s x) with
      | true =>
        rw [hv] at HW
        have HV := Aside0.mk hv
        have HX := Aside0.mk hlt
        clear hv hlt h0 h1 fin_
        go_wp2_with (go_at_call 50; refine (HW.out _).mono ?_; rintro e w2 ⟨rfl, hB2⟩; have HB2 := Aside0.mk hB2; clear hB2)
        go_roundw
        case rel => exact ⟨x + 1, by have h0 := hk.out.1; have h1 := HX.out; have e : wrap64 (x + 1) = x + 1 := (by unfold wrap64; omega); first | (rw [e]; done) | rfl | (simp [e]; done), ⟨by have h0 := hk.out.1; have h1 := HX.out; omega⟩, ⟨hBw.out.trans (HB2.out.mono hBw.out.size)⟩, ⟨fun j hj => by
          have h0 := hk.out.1
          by_cases e : j = x.toNat
          · subst e; rw [Int.toNat_of_nonneg h0]; exact HV.out
          · exact hn.out j (by omega)⟩⟩
        case measure => have h0 := hk.out.1; have h1 := HX.out; have e : wrap64 (x + 1) = x + 1 := (by unfold wrap64; omega); simp only [intOf, e]; omega
      | false =>
        rw [hv] at HW
        have he : rdr_n (rdr_is 50) (bytesOf s) = x.toNat := rdr_at _ _ _ (by omega) (fun j hj => by have := hn.out j hj; rwa [Go.Proofs.YtbjbagocnnffaaaDoor.Aids.bt_bytes] at this) (.inr (by rw [Int.toNat_of_nonneg h0, ← Go.Proofs.YtbjbagocnnffaaaDoor.Aids.bt_bytes]; exact hv))
        have HE := Aside0.mk he
        have HFN := Aside0.mk fin_
        have p5 : x ≤ (s.size : Int) := by omega
        clear hv fin_ he
        go_wp2_with (go_at_call 50; refine (HW.out _).mono ?_; rintro e w2 ⟨rfl, hB2⟩; have HB2 := Aside0.mk hB2; have k0 := cellS50_0 (HI1.out.below hB2).1; have k1 := blk_frozen (HI1.out.below hB2).1 0; clear hB2)
        go_ret
        have F := HFN.out w2 (hBw.out.trans (HB2.out.mono hBw.out.size)) HE.out
        exact ⟨by rw [HE.out]; first | rfl | simp, F⟩
    · have hb : decide (x < (s.size : Int)) = false := decide_eq_false hlt
      have he : rdr_n (rdr_is 50) (bytesOf s) = x.toNat := rdr_at _ _ _ (by omega) (fun j hj => by have := hn.out j hj; rwa [Go.Proofs.YtbjbagocnnffaaaDoor.Aids.bt_bytes] at this) (.inl (by omega))
      have HE := Aside0.mk he
      have HFN := Aside0.mk fin_
      have p5 : x ≤ (s.size : Int) := h1
      clear fin_ he
      go_wp2
      go_ret
      have F := HFN.out wr hBw.out HE.out
      exact ⟨by rw [HE.out]; first | rfl | simp, F⟩
theorem section_reader_run.calls (g : Nat) (s0_0 : ByteArray) (s0_1 : Bool) (a1 : Nat) (r1 : ByteArray) (r2 : ByteArray) (r3 : Bool) (w0 w : World) (hI : IsS50 w0 w g s0_0 s0_1) (hB : Below w0.heap.size w0 w) (h : section_reader_run.f s0_0 s0_1 a1 = some (r1, r2, r3)) :
    Calls Tryd.prog 38 #[.pointer (some ⟨g, 0, none⟩), .func (.func a1) #[] #[]] w fun e w' => e = .returned (.string r1) ∧ IsS50 w0 w' g r2 r3 ∧ Below w0.heap.size w0 w' ∧ KeepBut w w' g none := by
  unfold section_reader_run.f at h
  by_cases hh : (a1 = 37 ∨ a1 = 39 ∨ a1 = 50) ∧ s0_0.size ≤ 100000000
  case neg => rw [if_neg hh] at h; exact absurd h (by simp)
  rw [if_pos hh] at h
  simp only [Option.some.injEq, Prod.mk.injEq] at h
  obtain ⟨rfl, rfl, rfl⟩ := h
  rcases hh.1 with rfl | rfl | rfl
  · exact rdr_run_digit g s0_0 s0_1 w0 w hI hB hh.2
  · exact rdr_run_letter g s0_0 s0_1 w0 w hI hB hh.2
  · exact rdr_run_atom g s0_0 s0_1 w0 w hI hB hh.2

end Go.Proofs.YtbjbagocnnffaaaDoor.P
