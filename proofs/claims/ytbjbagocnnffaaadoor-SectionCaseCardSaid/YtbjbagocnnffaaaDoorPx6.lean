-- Written by a program of this session (wip/tools/mk.sh) for this claim: it runs the kit's print with contracts of our own. Lean checks it.
import Derived.Test.YtbjbagocnnffaaaDoorPx0
import Derived.Test.YtbjbagocnnffaaaDoorWRepsOne
import Derived.Test.YtbjbagocnnffaaaDoorZStr
import Derived.Test.YtbjbagocnnffaaaDoorPx1
import Derived.Test.YtbjbagocnnffaaaDoorPx2
import Derived.Test.YtbjbagocnnffaaaDoorPx3
import Derived.Test.YtbjbagocnnffaaaDoorPx4
import Derived.Test.YtbjbagocnnffaaaDoorPx5
namespace Go.Proofs.YtbjbagocnnffaaaDoor.P
open Go.RowKit Go.Proofs.YtbjbagocnnffaaaDoorW.PrintWords Go.Proofs.YtbjbagocnnffaaaDoorW.PrintLast Go.Proofs.YtbjbagocnnffaaaDoorW.PrintMore
attribute [-simp] Int.tmod_tmod_of_dvd
attribute [local go_sem] max2_int min2_int max_two min_two max_three min_three max_four min_four   -- for this text's walks alone
set_option linter.unusedVariables false
set_option linter.unusedSimpArgs false

/-! ### section_reader_names: function 20 -/
def section_reader_names.l0 : Nat → List ByteArray → ByteArray → Bool → Option (List ByteArray × ByteArray × Bool)
 | 0, _, _, _ => none
 | k + 1, x3, x1000, x1001 => if x1001 = true then ((section_reader_need.f x1000 x1001 (⟨#[41]⟩ : ByteArray)).bind fun bt150 => (some (x3, bt150.1, bt150.2))) else ((section_reader_is.f x1000 x1001 (⟨#[32]⟩ : ByteArray)).bind fun bt152 => (if bt152.1 = true then ((section_reader_name.f k bt152.2.1 bt152.2.2).bind fun bt155 => (if x3.length < 8796093022208 then (section_reader_names.l0 k (x3 ++ [bt155.1]) bt155.2.1 bt155.2.2) else (none))) else ((section_reader_need.f bt152.2.1 bt152.2.2 (⟨#[41]⟩ : ByteArray)).bind fun bt161 => (some (x3, bt161.1, bt161.2)))))
def section_reader_names.f (k : Nat) (s0_0 : ByteArray) (s0_1 : Bool) : Option (List ByteArray × ByteArray × Bool) := (section_reader_need.f s0_0 s0_1 (⟨#[32, 40]⟩ : ByteArray)).bind fun bt142 => ((section_reader_name.f k bt142.1 bt142.2).bind fun bt144 => (section_reader_names.l0 k (([bt144.1] : List ByteArray)) bt144.2.1 bt144.2.2))
theorem section_reader_names.mono_l : ∀ k, (∀ y0 y1 y2, LeO (section_reader_names.l0 k y0 y1 y2) (section_reader_names.l0 (k + 1) y0 y1 y2))
 | 0 => fun _ _ _ r h => by simp [section_reader_names.l0] at h
 | k + 1 => by
  have ih0 := section_reader_names.mono_l k
  ·intro y0 y1 y2
   unfold section_reader_names.l0
   repeat' first
   | (with_reducible exact ih0 _ _ _)
   | (with_reducible exact section_reader_name.mono _ _ _)
   | (with_reducible exact LeO.refl _)
   | (with_reducible exact LeO.none _)
   | (with_reducible refine LeO.ite ?_ ?_)
   | (with_reducible refine LeO.bind ?_ (fun _ => ?_))
   | exact ih0 _ _ _
   | exact section_reader_name.mono _ _ _
   | exact LeO.none _
   | refine LeO.ite ?_ ?_
   | refine LeO.bind ?_ (fun _ => ?_)
theorem section_reader_names.mono : ∀ a0 a1 k, LeO (section_reader_names.f k a0 a1) (section_reader_names.f (k + 1) a0 a1) := by
 intro a0 a1 k
 have ih0 := section_reader_names.mono_l k
 unfold section_reader_names.f
 repeat' first
   | (with_reducible exact ih0 _ _ _)
   | (with_reducible exact section_reader_name.mono _ _ _)
   | (with_reducible exact LeO.refl _)
   | (with_reducible exact LeO.none _)
   | (with_reducible refine LeO.ite ?_ ?_)
   | (with_reducible refine LeO.bind ?_ (fun _ => ?_))
   | exact ih0 _ _ _
   | exact section_reader_name.mono _ _ _
   | exact LeO.none _
   | refine LeO.ite ?_ ?_
   | refine LeO.bind ?_ (fun _ => ?_)
set_option maxHeartbeats 8000000 in
set_option maxRecDepth 100000 in
theorem section_reader_names.calls (k : Nat) (g : Nat) (s0_0 : ByteArray) (s0_1 : Bool) (r1 : List ByteArray) (r2 : ByteArray) (r3 : Bool) (w0 w : World) (hI : IsS50 w0 w g s0_0 s0_1) (hB : Below w0.heap.size w0 w) (h : section_reader_names.f k s0_0 s0_1 = some (r1, r2, r3)) :
  Calls Tryd.prog 20 #[.pointer (some ⟨g, 0, none⟩)] w fun e w' => ∃ v0_ : Value, e = .returned (v0_) ∧ Kd.R Kd.string 9 w' w.heap.size (fun _ => True) v0_ r1 ∧ IsS50 w0 w' g r2 r3 ∧ Below w0.heap.size w0 w' ∧ KeepBut w w' g none := by
 have HI0 := Aside0.mk hI
 have HK := Aside0.mk (KeepBut.refl w g none)
 have HL := Aside0.mk hB.size
 clear hI
 have HW0 := Aside0.mk hB.size
 have HB := Aside0.mk hB
 clear hB
 have H : ((section_reader_need.f s0_0 s0_1 (⟨#[32, 40]⟩ : ByteArray)).bind fun bt142 => ((section_reader_name.f k bt142.1 bt142.2).bind fun bt144 => (section_reader_names.l0 k (([bt144.1] : List ByteArray)) bt144.2.1 bt144.2.2))) = some (r1, r2, r3) := h
 clear h
 replace H := Option.bind_eq_some_iff.mp H
 obtain ⟨⟨t142, t143⟩, A20, H⟩ := H
 replace H : ((section_reader_name.f k t142 t143).bind fun bt144 => (section_reader_names.l0 k (([bt144.1] : List ByteArray)) bt144.2.1 bt144.2.2)) = some (r1, r2, r3) := H
 have A2 := Aside0.mk A20
 clear A20
 replace H := Option.bind_eq_some_iff.mp H
 obtain ⟨⟨t144, t145, t146⟩, A30, H⟩ := H
 replace H : (section_reader_names.l0 k (([t144] : List ByteArray)) t145 t146) = some (r1, r2, r3) := H
 have A3 := Aside0.mk A30
 clear A30
 obtain ⟨y147, hy147⟩ : ∃ y_ : List ByteArray, y_ = (([t144] : List ByteArray)) := ⟨_, rfl⟩
 replace H : (section_reader_names.l0 k y147 t145 t146) = some (r1, r2, r3) := by first | (rw [hy147]; with_reducible exact H) | (have H2_ := (Option.bind_some _ _).symm.trans H; rw [hy147]; with_reducible exact H2_) | (have H2_ := (Option.bind_some _ _).symm.trans H; with_reducible exact H2_) | with_reducible exact H | (rw [hy147]; exact H) | exact H
 have Ny147 := Aside0.mk hy147
 clear hy147
 have H' := Aside0.mk H
 clear H
 go_enter Tryd.func20, Tryd.ntmps20
 go_wp2_with (first | ((with_reducible refine gate_callee (f := 17) rfl ?_); refine goesL_ (some 5) rfl rfl Tryd.func17 (by kernel_rfl) rfl #[.pointer (some ⟨g, 0, none⟩), .string (⟨#[32, 40]⟩ : ByteArray)] rfl qa_ ?_; (with_reducible refine (section_reader_need.calls g s0_0 s0_1 (⟨#[32, 40]⟩ : ByteArray) t142 t143 w0 _ ?side1 ?side2 A2.out).mono ?_); (case side1 => repeat (first | (with_reducible first | exact HI0.out | apply IsS50.alloc | apply IsS50.drewN | apply IsS50.drew | apply IsS50.set_0 | apply IsS50.set_1) | exact HI0.out)); (case side2 => repeat (first | (with_reducible first | exact HB.out | apply below_alloc | apply pw_below_drewN | apply below_drew1 | refine below_set ?_ (IsS50.ge HI0.out)) | exact HB.out)); rintro e w4 ⟨rfl, hi, hb, hk⟩; refine ⟨_, rfl, ?_⟩; have n0_ := Aside0.mk (KeepBut.trans (qh_ HK.out) hk (.inl rfl)); have n1_ := Aside0.mk (hb); have n2_ := Aside0.mk (hi); clear HK; clear HB; clear HI0; have HK := n0_; have HB := n1_; have HI0 := n2_; clear n0_ n1_ n2_; (try clear hb); (try clear hb2); (try clear hk); (try clear hi)) | ((with_reducible refine gate_callee (f := 41) rfl ?_); refine goesL_ (some 7) rfl rfl Tryd.func41 (by kernel_rfl) rfl #[.pointer (some ⟨g, 0, none⟩)] rfl qa_ ?_; (with_reducible refine (section_reader_name.calls k g t142 t143 t144 t145 t146 w0 _ ?side1 ?side2 A3.out).mono ?_); (case side1 => repeat (first | (with_reducible first | exact HI0.out | apply IsS50.alloc | apply IsS50.drewN | apply IsS50.drew | apply IsS50.set_0 | apply IsS50.set_1) | exact HI0.out)); (case side2 => repeat (first | (with_reducible first | exact HB.out | apply below_alloc | apply pw_below_drewN | apply below_drew1 | refine below_set ?_ (IsS50.ge HI0.out)) | exact HB.out)); rintro e w5 ⟨rfl, hi, hb, hk⟩; refine ⟨_, rfl, ?_⟩; have n0_ := Aside0.mk (KeepBut.trans (qh_ HK.out) hk (.inl rfl)); have n1_ := Aside0.mk (hb); have n2_ := Aside0.mk (hi); clear HK; clear HB; clear HI0; have HK := n0_; have HB := n1_; have HI0 := n2_; clear n0_ n1_ n2_; (try clear hb); (try clear hb2); (try clear hk); (try clear hi)) | ((with_reducible refine gate_dst (N := 8) rfl ?_); refine Kd.R_lit Kd.string _ 9 ?hg (N := 8) ?hd (xs := ([t144] : List ByteArray)) (inner := [.string t144]) (ok := fun _ => True) (okp := fun _ => True) ?hr ?hp (fun _ hk => hk) trivial (Below.refl _ _) (Nat.le_refl _) (by simp) ?_; (case hd => rfl); (case hg => rfl); (case hr => first | (go_simp; done) | (go_simp; rfl)); (case hp => exact (Reps.one (show Kd.M Kd.string _ _ _ t144 [.string t144] from rfl) (Reps.none _ _))); intro v148 w6 ho7 hb hg_ hnew_; clear hg_ hnew_; (first | rw [← Ny147.out] at ho7 | (simp only [Int.reduceToNat] at ho7; rw [← Ny147.out] at ho7)); have n0_ := Aside0.mk (Kd.R_lower ho7 (keep_size (w := w) (g := g) (row := none) (qh_ HK.out))); have n1_ := Aside0.mk (IsS50.below (by repeat (first | (with_reducible first | exact HI0.out | apply IsS50.alloc | apply IsS50.drewN | apply IsS50.drew | apply IsS50.set_0 | apply IsS50.set_1) | exact HI0.out)) hb); have n2_ := Aside0.mk (KeepBut.trans (qh_ HK.out) (KeepBut.of_below hb g none) (.inl rfl)); have n3_ := Aside0.mk (below_step (by repeat (first | (with_reducible first | exact HB.out | apply below_alloc | apply pw_below_drewN | apply below_drew1 | refine below_set ?_ (IsS50.ge HI0.out)) | exact HB.out)) hb); clear HI0; clear HK; clear HB; have HO149 := n0_; have HI0 := n1_; have HK := n2_; have HB := n3_; clear n0_ n1_ n2_ n3_; clear hb ho7))
 go_loopg [3] k (fun kq v3 w' => ∃ (x3_1 : List ByteArray) (x1000_1 : ByteArray) (x1001_1 : Bool), Aside0 (section_reader_names.l0 kq x3_1 x1000_1 x1001_1 = some (r1, r2, r3)) ∧ Aside0 (kq ≤ k) ∧ Aside0 (Kd.R Kd.string 9 w' w.heap.size (fun _ => True) v3 x3_1) ∧ Aside0 (IsS50 w0 w' g x1000_1 x1001_1) ∧ Aside0 (KeepBut w w' g none) ∧ Aside0 (Below w0.heap.size w0 w'))
 case atStart => exact ⟨(y147), (t145), (t146), H', ⟨Nat.le_refl _⟩, ⟨ql_ HO149.out⟩, ⟨by repeat (first | (with_reducible first | exact HI0.out | apply IsS50.alloc | apply IsS50.drewN | apply IsS50.drew | apply IsS50.set_0 | apply IsS50.set_1) | exact HI0.out)⟩, ⟨qh_ HK.out⟩, ⟨by repeat (first | (with_reducible first | exact HB.out | apply below_alloc | apply pw_below_drewN | apply below_drew1 | refine below_set ?_ (IsS50.ge HI0.out)) | exact HB.out)⟩⟩
 case round =>
  clear H'
  obtain ⟨x3_1, x1000_1, x1001_1, HA, HK1, HO_3, HI0, HK, HB⟩ := hrel
  cases gk with
  | zero => exact absurd HA.out (by simp [section_reader_names.l0])
  | succ k1 =>
   have H := HA.out
   clear HA
   simp only [section_reader_names.l0] at H
   by_cases c8 : x1001_1 = true
   ·subst c8
    have H1 : ((section_reader_need.f x1000_1 true (⟨#[41]⟩ : ByteArray)).bind fun bt150 => (some (x3_1, bt150.1, bt150.2))) = some (r1, r2, r3) := by rw [if_pos rfl] at H; exact H
    clear H
    have H := H1
    clear H1
    replace H := Option.bind_eq_some_iff.mp H
    obtain ⟨⟨t150, t151⟩, A90, H⟩ := H
    replace H : (some (x3_1, t150, t151)) = some (r1, r2, r3) := H
    have A9 := Aside0.mk A90
    clear A90
    simp only [Option.some.injEq, Prod.mk.injEq] at H
    obtain ⟨rfl, rfl, rfl⟩ := H
    obtain ⟨HGz10, hgz10⟩ := HI0.out
    have hcz10_0 := cellS50_0 HGz10
    have hcz10_1 := cellS50_1 HGz10
    have hfz10_0 := blk_frozen HGz10 0
    have hfz10_1 := blk_frozen HGz10 1
    clear HGz10 hgz10
    go_wp2_with (first | ((with_reducible refine gate_callee (f := 17) rfl ?_); refine goesL_ (some 24) rfl rfl Tryd.func17 (by kernel_rfl) rfl #[.pointer (some ⟨g, 0, none⟩), .string (⟨#[41]⟩ : ByteArray)] rfl qa_ ?_; (with_reducible refine (section_reader_need.calls g x1000_1 true (⟨#[41]⟩ : ByteArray) t150 t151 w0 _ ?side1 ?side2 A9.out).mono ?_); (case side1 => repeat (first | (with_reducible first | exact HI0.out | apply IsS50.alloc | apply IsS50.drewN | apply IsS50.drew | apply IsS50.set_0 | apply IsS50.set_1) | exact HI0.out)); (case side2 => repeat (first | (with_reducible first | exact HB.out | apply below_alloc | apply pw_below_drewN | apply below_drew1 | refine below_set ?_ (IsS50.ge HI0.out)) | exact HB.out)); rintro e w11 ⟨rfl, hi, hb, hk⟩; refine ⟨_, rfl, ?_⟩; have n0_ := Aside0.mk (Kd.R_mono (Kd.R_keep (IsS50.apart (show IsS50 w0 _ g x1000_1 true from by repeat (first | (with_reducible first | exact HI0.out | apply IsS50.alloc | apply IsS50.drewN | apply IsS50.drew | apply IsS50.set_0 | apply IsS50.set_1) | exact HI0.out)) (ql_ HO_3.out) (by decide)) hk (fun _ h => h.2)) (fun _ h => h.1)); have n1_ := Aside0.mk (KeepBut.trans (qh_ HK.out) hk (.inl rfl)); have n2_ := Aside0.mk (hb); have n3_ := Aside0.mk (hi); clear HO_3; clear HK; clear HB; clear HI0; have HO_3 := n0_; have HK := n1_; have HB := n2_; have HI0 := n3_; clear n0_ n1_ n2_ n3_; (try clear hb); (try clear hb2); (try clear hk); (try clear hi)))
    go_ret
    exact ⟨_, qw_, ql_ HO_3.out, by repeat (first | (with_reducible first | exact HI0.out | apply IsS50.alloc | apply IsS50.drewN | apply IsS50.drew | apply IsS50.set_0 | apply IsS50.set_1) | exact HI0.out), by repeat (first | (with_reducible first | exact HB.out | apply below_alloc | apply pw_below_drewN | apply below_drew1 | refine below_set ?_ (IsS50.ge HI0.out)) | exact HB.out), qh_ HK.out⟩
   ·replace c8 := Bool.eq_false_iff.mpr c8
    subst c8
    have H1 : ((section_reader_is.f x1000_1 false (⟨#[32]⟩ : ByteArray)).bind fun bt152 => (if bt152.1 = true then ((section_reader_name.f k1 bt152.2.1 bt152.2.2).bind fun bt155 => (if x3_1.length < 8796093022208 then (section_reader_names.l0 k1 (x3_1 ++ [bt155.1]) bt155.2.1 bt155.2.2) else (none))) else ((section_reader_need.f bt152.2.1 bt152.2.2 (⟨#[41]⟩ : ByteArray)).bind fun bt161 => (some (x3_1, bt161.1, bt161.2))))) = some (r1, r2, r3) := by rw [if_neg (show ¬ (false = true) by decide)] at H; exact H
    clear H
    have H := H1
    clear H1
    replace H := Option.bind_eq_some_iff.mp H
    obtain ⟨⟨t152, t153, t154⟩, A120, H⟩ := H
    replace H : (if t152 = true then ((section_reader_name.f k1 t153 t154).bind fun bt155 => (if x3_1.length < 8796093022208 then (section_reader_names.l0 k1 (x3_1 ++ [bt155.1]) bt155.2.1 bt155.2.2) else (none))) else ((section_reader_need.f t153 t154 (⟨#[41]⟩ : ByteArray)).bind fun bt161 => (some (x3_1, bt161.1, bt161.2)))) = some (r1, r2, r3) := H
    have A12 := Aside0.mk A120
    clear A120
    by_cases c13 : t152 = true
    ·subst c13
     have H1 : ((section_reader_name.f k1 t153 t154).bind fun bt155 => (if x3_1.length < 8796093022208 then (section_reader_names.l0 k1 (x3_1 ++ [bt155.1]) bt155.2.1 bt155.2.2) else (none))) = some (r1, r2, r3) := by rw [if_pos rfl] at H; exact H
     clear H
     have H := H1
     clear H1
     replace H := Option.bind_eq_some_iff.mp H
     obtain ⟨⟨t155, t156, t157⟩, A140, H⟩ := H
     replace H : (if x3_1.length < 8796093022208 then (section_reader_names.l0 k1 (x3_1 ++ [t155]) t156 t157) else (none)) = some (r1, r2, r3) := H
     have A14 := Aside0.mk A140
     clear A140
     by_cases c15 : x3_1.length < 8796093022208
     ·rw [if_pos c15] at H
      have LMc15 := Aside0.mk c15
      clear c15
      obtain ⟨y158, hy158⟩ : ∃ y_ : List ByteArray, y_ = (x3_1 ++ [t155]) := ⟨_, rfl⟩
      replace H : (section_reader_names.l0 k1 y158 t156 t157) = some (r1, r2, r3) := by first | (rw [hy158]; with_reducible exact H) | (have H2_ := (Option.bind_some _ _).symm.trans H; rw [hy158]; with_reducible exact H2_) | (have H2_ := (Option.bind_some _ _).symm.trans H; with_reducible exact H2_) | with_reducible exact H | (rw [hy158]; exact H) | exact H
      have Ny158 := Aside0.mk hy158
      clear hy158
      have H' := Aside0.mk H
      clear H
      obtain ⟨HGz16, hgz16⟩ := HI0.out
      have hcz16_0 := cellS50_0 HGz16
      have hcz16_1 := cellS50_1 HGz16
      have hfz16_0 := blk_frozen HGz16 0
      have hfz16_1 := blk_frozen HGz16 1
      clear HGz16 hgz16
      go_wp2_with (first | (go_at_call 21; (with_reducible refine (section_reader_is.calls g x1000_1 false (⟨#[32]⟩ : ByteArray) true t153 t154 w0 _ ?side1 ?side2 A12.out).mono ?_); (case side1 => repeat (first | (with_reducible first | exact HI0.out | apply IsS50.alloc | apply IsS50.drewN | apply IsS50.drew | apply IsS50.set_0 | apply IsS50.set_1) | exact HI0.out)); (case side2 => repeat (first | (with_reducible first | exact HB.out | apply below_alloc | apply pw_below_drewN | apply below_drew1 | refine below_set ?_ (IsS50.ge HI0.out)) | exact HB.out)); rintro e w17 ⟨rfl, hi, hb, hk⟩; have n0_ := Aside0.mk (Kd.R_mono (Kd.R_keep (IsS50.apart (show IsS50 w0 _ g x1000_1 false from by repeat (first | (with_reducible first | exact HI0.out | apply IsS50.alloc | apply IsS50.drewN | apply IsS50.drew | apply IsS50.set_0 | apply IsS50.set_1) | exact HI0.out)) (ql_ HO_3.out) (by decide)) hk (fun _ h => h.2)) (fun _ h => h.1)); have n1_ := Aside0.mk (KeepBut.trans (qh_ HK.out) hk (.inl rfl)); have n2_ := Aside0.mk (hb); have n3_ := Aside0.mk (hi); clear HO_3; clear HK; clear HB; clear HI0; have HO_3 := n0_; have HK := n1_; have HB := n2_; have HI0 := n3_; clear n0_ n1_ n2_ n3_; (try clear hb); (try clear hb2); (try clear hk); (try clear hi)) | ((with_reducible refine gate_callee (f := 41) rfl ?_); refine goesL_ (some 20) rfl rfl Tryd.func41 (by kernel_rfl) rfl #[.pointer (some ⟨g, 0, none⟩)] rfl qa_ ?_; (with_reducible refine (section_reader_name.calls k1 g t153 t154 t155 t156 t157 w0 _ ?side1 ?side2 A14.out).mono ?_); (case side1 => repeat (first | (with_reducible first | exact HI0.out | apply IsS50.alloc | apply IsS50.drewN | apply IsS50.drew | apply IsS50.set_0 | apply IsS50.set_1) | exact HI0.out)); (case side2 => repeat (first | (with_reducible first | exact HB.out | apply below_alloc | apply pw_below_drewN | apply below_drew1 | refine below_set ?_ (IsS50.ge HI0.out)) | exact HB.out)); rintro e w18 ⟨rfl, hi, hb, hk⟩; refine ⟨_, rfl, ?_⟩; have n0_ := Aside0.mk (Kd.R_mono (Kd.R_keep (IsS50.apart (show IsS50 w0 _ g t153 t154 from by repeat (first | (with_reducible first | exact HI0.out | apply IsS50.alloc | apply IsS50.drewN | apply IsS50.drew | apply IsS50.set_0 | apply IsS50.set_1) | exact HI0.out)) (ql_ HO_3.out) (by decide)) hk (fun _ h => h.2)) (fun _ h => h.1)); have n1_ := Aside0.mk (KeepBut.trans (qh_ HK.out) hk (.inl rfl)); have n2_ := Aside0.mk (hb); have n3_ := Aside0.mk (hi); clear HO_3; clear HK; clear HB; clear HI0; have HO_3 := n0_; have HK := n1_; have HB := n2_; have HI0 := n3_; clear n0_ n1_ n2_ n3_; (try clear hb); (try clear hb2); (try clear hk); (try clear hi)) | ((with_reducible refine gate_builtin (b := .append) (xs := #[.tmp 18, .tmp 21]) rfl ?_); at_builtin; refine Kd.R_append Kd.string w.heap.size rfl (.tmp 18) (.tmp 21) 24 9 (.string ⟨#[]⟩) 16 rfl Tryd.underlying24 info9 rfl (by decide) (by omega) u3 x3_1 t155 [.string t155] (fun _ => True) (fun _ => False) rfl rfl ?aP (fun _ hk => hk.elim) ?aF ?aO (Below.refl _ _) ?aS ?aL ?_; (case aP => exact rfl); (case aF => exact (fun _ _ => trivial)); (case aO => exact (ql_ HO_3.out)); (case aS => exact (keep_size (w := w) (g := g) (row := none) (qh_ HK.out))); (case aL => have := LMc15.out; omega); intro v159 w19 ho hb hg hat; rw [← Ny158.out] at ho; have n0_ := Aside0.mk (IsS50.grown (by repeat (first | (with_reducible first | exact HI0.out | apply IsS50.alloc | apply IsS50.drewN | apply IsS50.drew | apply IsS50.set_0 | apply IsS50.set_1) | exact HI0.out)) hg (IsS50.own_ne HI0.out HO_3.out (by decide))); have n1_ := Aside0.mk (below_weaken (by repeat (first | (with_reducible first | exact HB.out | apply below_alloc | apply pw_below_drewN | apply below_drew1 | refine below_set ?_ (IsS50.ge HI0.out)) | exact HB.out)) HL.out hb); have n2_ := Aside0.mk (KeepBut.trans (qh_ HK.out) (KeepBut.of_grown hg g) (Kd.R_base2 HO_3.out)); have n3_ := Aside0.mk (ho); clear HI0; clear HB; clear HK; clear HO_3; have HI0 := n0_; have HB := n1_; have HK := n2_; have HO160 := n3_; clear n0_ n1_ n2_ n3_; clear ho hb hg hat))
      go_roundg k1
      case measure => have := HK1.out; omega
      case rel => exact ⟨(y158), (t156), (t157), H', ⟨by have := HK1.out; omega⟩, ⟨ql_ HO160.out⟩, ⟨by repeat (first | (with_reducible first | exact HI0.out | apply IsS50.alloc | apply IsS50.drewN | apply IsS50.drew | apply IsS50.set_0 | apply IsS50.set_1) | exact HI0.out)⟩, ⟨qh_ HK.out⟩, ⟨by repeat (first | (with_reducible first | exact HB.out | apply below_alloc | apply pw_below_drewN | apply below_drew1 | refine below_set ?_ (IsS50.ge HI0.out)) | exact HB.out)⟩⟩
     ·rw [if_neg c15] at H
      exact absurd H (by simp)
    ·replace c13 := Bool.eq_false_iff.mpr c13
     subst c13
     have H1 : ((section_reader_need.f t153 t154 (⟨#[41]⟩ : ByteArray)).bind fun bt161 => (some (x3_1, bt161.1, bt161.2))) = some (r1, r2, r3) := by rw [if_neg (show ¬ (false = true) by decide)] at H; exact H
     clear H
     have H := H1
     clear H1
     replace H := Option.bind_eq_some_iff.mp H
     obtain ⟨⟨t161, t162⟩, A200, H⟩ := H
     replace H : (some (x3_1, t161, t162)) = some (r1, r2, r3) := H
     have A20 := Aside0.mk A200
     clear A200
     simp only [Option.some.injEq, Prod.mk.injEq] at H
     obtain ⟨rfl, rfl, rfl⟩ := H
     obtain ⟨HGz21, hgz21⟩ := HI0.out
     have hcz21_0 := cellS50_0 HGz21
     have hcz21_1 := cellS50_1 HGz21
     have hfz21_0 := blk_frozen HGz21 0
     have hfz21_1 := blk_frozen HGz21 1
     clear HGz21 hgz21
     go_wp2_with (first | (go_at_call 21; (with_reducible refine (section_reader_is.calls g x1000_1 false (⟨#[32]⟩ : ByteArray) false t153 t154 w0 _ ?side1 ?side2 A12.out).mono ?_); (case side1 => repeat (first | (with_reducible first | exact HI0.out | apply IsS50.alloc | apply IsS50.drewN | apply IsS50.drew | apply IsS50.set_0 | apply IsS50.set_1) | exact HI0.out)); (case side2 => repeat (first | (with_reducible first | exact HB.out | apply below_alloc | apply pw_below_drewN | apply below_drew1 | refine below_set ?_ (IsS50.ge HI0.out)) | exact HB.out)); rintro e w22 ⟨rfl, hi, hb, hk⟩; have n0_ := Aside0.mk (Kd.R_mono (Kd.R_keep (IsS50.apart (show IsS50 w0 _ g x1000_1 false from by repeat (first | (with_reducible first | exact HI0.out | apply IsS50.alloc | apply IsS50.drewN | apply IsS50.drew | apply IsS50.set_0 | apply IsS50.set_1) | exact HI0.out)) (ql_ HO_3.out) (by decide)) hk (fun _ h => h.2)) (fun _ h => h.1)); have n1_ := Aside0.mk (KeepBut.trans (qh_ HK.out) hk (.inl rfl)); have n2_ := Aside0.mk (hb); have n3_ := Aside0.mk (hi); clear HO_3; clear HK; clear HB; clear HI0; have HO_3 := n0_; have HK := n1_; have HB := n2_; have HI0 := n3_; clear n0_ n1_ n2_ n3_; (try clear hb); (try clear hb2); (try clear hk); (try clear hi)) | ((with_reducible refine gate_callee (f := 17) rfl ?_); refine goesL_ (some 24) rfl rfl Tryd.func17 (by kernel_rfl) rfl #[.pointer (some ⟨g, 0, none⟩), .string (⟨#[41]⟩ : ByteArray)] rfl qa_ ?_; (with_reducible refine (section_reader_need.calls g t153 t154 (⟨#[41]⟩ : ByteArray) t161 t162 w0 _ ?side1 ?side2 A20.out).mono ?_); (case side1 => repeat (first | (with_reducible first | exact HI0.out | apply IsS50.alloc | apply IsS50.drewN | apply IsS50.drew | apply IsS50.set_0 | apply IsS50.set_1) | exact HI0.out)); (case side2 => repeat (first | (with_reducible first | exact HB.out | apply below_alloc | apply pw_below_drewN | apply below_drew1 | refine below_set ?_ (IsS50.ge HI0.out)) | exact HB.out)); rintro e w23 ⟨rfl, hi, hb, hk⟩; refine ⟨_, rfl, ?_⟩; have n0_ := Aside0.mk (Kd.R_mono (Kd.R_keep (IsS50.apart (show IsS50 w0 _ g t153 t154 from by repeat (first | (with_reducible first | exact HI0.out | apply IsS50.alloc | apply IsS50.drewN | apply IsS50.drew | apply IsS50.set_0 | apply IsS50.set_1) | exact HI0.out)) (ql_ HO_3.out) (by decide)) hk (fun _ h => h.2)) (fun _ h => h.1)); have n1_ := Aside0.mk (KeepBut.trans (qh_ HK.out) hk (.inl rfl)); have n2_ := Aside0.mk (hb); have n3_ := Aside0.mk (hi); clear HO_3; clear HK; clear HB; clear HI0; have HO_3 := n0_; have HK := n1_; have HB := n2_; have HI0 := n3_; clear n0_ n1_ n2_ n3_; (try clear hb); (try clear hb2); (try clear hk); (try clear hi)))
     go_ret
     exact ⟨_, qw_, ql_ HO_3.out, by repeat (first | (with_reducible first | exact HI0.out | apply IsS50.alloc | apply IsS50.drewN | apply IsS50.drew | apply IsS50.set_0 | apply IsS50.set_1) | exact HI0.out), by repeat (first | (with_reducible first | exact HB.out | apply below_alloc | apply pw_below_drewN | apply below_drew1 | refine below_set ?_ (IsS50.ge HI0.out)) | exact HB.out), qh_ HK.out⟩

/-! ### section_Parse: function 8 -/
abbrev SecT : Type := List Int × Int × List ByteArray × Bool × Int × Int × Int
def sec_none : SecT := ([], 0, [], false, 0, 0, 50)
/-- the end of it: what was read may be -/
def sec_last (k : Nat) (p : List Int) (q : Int) (nm : List ByteArray) (s : ByteArray) (b : Bool) (cut : Bool) (fr mn : Int) : Option SecT :=
  if b = true then some sec_none else if s.toList ≠ ([] : List UInt8) then some sec_none else (section_Check.f k p q nm cut fr mn).bind fun e => if e = 0 then some (p, q, nm, cut, fr, mn, 0) else some sec_none
def sec_cut (k : Nat) (p : List Int) (q : Int) (nm : List ByteArray) (s : ByteArray) (b : Bool) : Option SecT :=
  (section_reader_need.f s b (⟨#[93]⟩ : ByteArray)).bind fun t => (section_reader_is.f t.1 t.2 (⟨#[60]⟩ : ByteArray)).bind fun i =>
    if i.1 = true then
      (section_reader_number.f k i.2.1 i.2.2).bind fun n => (section_reader_need.f n.2.1 n.2.2 (⟨#[46]⟩ : ByteArray)).bind fun d => (section_reader_number.f k d.1 d.2).bind fun m => (section_reader_need.f m.2.1 m.2.2 (⟨#[62]⟩ : ByteArray)).bind fun e =>
        sec_last k p q nm e.1 e.2 true n.1 m.1
    else sec_last k p q nm i.2.1 i.2.2 false 0 0
def section_Parse.f (k : Nat) (a0 : ByteArray) : Option SecT :=
  (section_reader_need.f a0 false (⟨#[91]⟩ : ByteArray)).bind fun t => (sec_what k k t.1 t.2 []).bind fun u =>
    if (u.2.1 = 2 ∨ u.2.1 = 3) ∧ u.2.2.2 = false then (section_reader_names.f k u.2.2.1 u.2.2.2).bind fun n => sec_cut k u.1 u.2.1 n.1 n.2.1 n.2.2
    else sec_cut k u.1 u.2.1 [] u.2.2.1 u.2.2.2
theorem sec_last_mono (k : Nat) (p : List Int) (q : Int) (nm : List ByteArray) (s : ByteArray) (b : Bool) (cut : Bool) (fr mn : Int) : LeO (sec_last k p q nm s b cut fr mn) (sec_last (k + 1) p q nm s b cut fr mn) := by
  unfold sec_last
  exact LeO.ite (LeO.refl _) (LeO.ite (LeO.refl _) (LeO.bind (section_Check.mono _ _ _ _ _ _ _) (fun _ => LeO.refl _)))
theorem sec_cut_mono (k : Nat) (p : List Int) (q : Int) (nm : List ByteArray) (s : ByteArray) (b : Bool) : LeO (sec_cut k p q nm s b) (sec_cut (k + 1) p q nm s b) := by
  unfold sec_cut
  exact LeO.bind (LeO.refl _) (fun _ => LeO.bind (LeO.refl _) (fun _ => LeO.ite (LeO.bind (section_reader_number.mono _ _ _) (fun _ => LeO.bind (LeO.refl _) (fun _ => LeO.bind (section_reader_number.mono _ _ _) (fun _ => LeO.bind (LeO.refl _) (fun _ => sec_last_mono _ _ _ _ _ _ _ _ _))))) (sec_last_mono _ _ _ _ _ _ _ _ _)))
theorem section_Parse.mono : ∀ a0 k, LeO (section_Parse.f k a0) (section_Parse.f (k + 1) a0) := by
  intro a0 k
  unfold section_Parse.f
  exact LeO.bind (LeO.refl _) (fun _ => LeO.bind (sec_what_mono k k _ _ _) (fun _ => LeO.ite (LeO.bind (section_reader_names.mono _ _ _) (fun _ => sec_cut_mono _ _ _ _ _ _)) (sec_cut_mono _ _ _ _ _ _)))
/-- what stands in memory while a text is parsed -/
structure PaI (w W : World) (A g h : Nat) (s : ByteArray) (b : Bool) (vp : Value) (p : List Int) (q : Int) (vn : Value) (nm : List ByteArray) (cut : Bool) (fr mn : Int) : Prop where
  rd : IsS50 w W g s b
  sp : W.heap[h]? = some (.cells #[vp, .int .i64 q, vn, .bool cut, .int .i64 fr, .int .i64 mn] 26 (0, 0))
  row : Kd.R (Kd.int .i64) 3 W w.heap.size (fun k => k ≠ A ∧ k ≠ g ∧ k ≠ h) vp p
  nrow : Kd.R Kd.string 9 W w.heap.size (fun k => k ≠ A ∧ k ≠ g ∧ k ≠ h) vn nm
  res : W.heap[A]? = some (.cells #[.slice none 0 0, .int .i64 0, .slice none 0 0, .bool false, .int .i64 0, .int .i64 0] 26 (0, 0))
  bel : Below w.heap.size w W
  apart : A ≠ g ∧ A ≠ h ∧ h ≠ g ∧ w.heap.size ≤ A ∧ w.heap.size ≤ h
section
variable {w W W1 : World} {A g h : Nat} {s s1 : ByteArray} {b b1 : Bool} {vp vn : Value} {p : List Int} {q : Int} {nm : List ByteArray} {cut : Bool} {fr mn : Int}
theorem PaI.next (hI : PaI w W A g h s b vp p q vn nm cut fr mn) (hi : IsS50 w W1 g s1 b1) (hb : Below w.heap.size w W1) (hk : KeepBut W W1 g none) : PaI w W1 A g h s1 b1 vp p q vn nm cut fr mn :=
  ⟨hi, hk.blk hI.sp hI.apart.2.2.1 (by simp), Kd.R_keep hI.row hk (fun k hk => hk.2.1), Kd.R_keep hI.nrow hk (fun k hk => hk.2.1), hk.blk hI.res hI.apart.1 (by simp), hb, hI.apart⟩
theorem PaI.below (hI : PaI w W A g h s b vp p q vn nm cut fr mn) (hB : Below W.heap.size W W1) : PaI w W1 A g h s b vp p q vn nm cut fr mn :=
  ⟨hI.rd.below hB, blk_below hI.sp hB, Kd.R_below hI.row hB, Kd.R_below hI.nrow hB, blk_below hI.res hB, hI.bel.trans (hB.mono hI.bel.size), hI.apart⟩
theorem PaI.put (hI : PaI w W A g h s b vp p q vn nm cut fr mn) (i : Nat) (u : Value) {vn1 : Value} {nm1 : List ByteArray} {cut1 : Bool} {fr1 mn1 : Int} (hR : Kd.R Kd.string 9 W w.heap.size (fun k => k ≠ A ∧ k ≠ g ∧ k ≠ h) vn1 nm1)
    (he : (#[vp, .int .i64 q, vn, .bool cut, .int .i64 fr, .int .i64 mn] : Array Value).setIfInBounds i u = #[vp, .int .i64 q, vn1, .bool cut1, .int .i64 fr1, .int .i64 mn1]) : PaI w (W.setCell ⟨h, i, none⟩ u) A g h s b vp p q vn1 nm1 cut1 fr1 mn1 :=
  ⟨hI.rd.far (Ne.symm hI.apart.2.2.1) _, blk_put hI.sp i _ he, Kd.R_far hI.row (p := ⟨h, i, none⟩) (fun k hk => hk.2.2) _, Kd.R_far hR (p := ⟨h, i, none⟩) (fun k hk => hk.2.2) _, blk_far hI.res (p := ⟨h, i, none⟩) hI.apart.2.1 _, hI.bel.setCell (p := ⟨h, i, none⟩) hI.apart.2.2.2.2 _, hI.apart⟩
theorem PaI.newer (hI : PaI w W A g h s b vp p q vn nm cut fr mn) {vn1 : Value} {nm1 : List ByteArray} (hR : Kd.R Kd.string 9 W1 W.heap.size (fun _ => True) vn1 nm1) : Kd.R Kd.string 9 W1 w.heap.size (fun k => k ≠ A ∧ k ≠ g ∧ k ≠ h) vn1 nm1 := by
  have l1 := blk_lt hI.rd.1
  have l2 := blk_lt hI.sp
  have l3 := blk_lt hI.res
  exact Kd.R_lower (Kd.R_mono (Kd.R_bound hR) (fun k hk => ⟨by have := hk.2.1; omega, by have := hk.2.1; omega, by have := hk.2.1; omega⟩)) hI.bel.size
theorem WhI.toPa {w1 : World} (hI : WhI w w1 W g h s b vp p q) (hres : w1.heap[A]? = some (.cells #[.slice none 0 0, .int .i64 0, .slice none 0 0, .bool false, .int .i64 0, .int .i64 0] 26 (0, 0))) (ha : A ≠ g ∧ A ≠ h ∧ h ≠ g ∧ w.heap.size ≤ A ∧ w.heap.size ≤ h) (h1 : w.heap.size ≤ w1.heap.size) :
    PaI w W A g h s b vp p q (.slice none 0 0) [] false 0 0 := by
  have l3 := blk_lt hres
  exact ⟨hI.rd, hI.sp, Kd.R_lower (Kd.R_mono (Kd.R_bound hI.row) (fun k hk => ⟨by have := hk.2.1; omega, hk.1.1, hk.1.2⟩)) h1, Kd.R_nil _ _ _ _ _, blk_kept hres hI.keep (fun e => e.elim ha.1 ha.2.1), hI.bel, ha⟩
end
def six (W : World) (A : Nat) (u0 u1 u2 u3 u4 u5 : Value) : World := (((((W.setCell ⟨A, 0, none⟩ u0).setCell ⟨A, 1, none⟩ u1).setCell ⟨A, 2, none⟩ u2).setCell ⟨A, 3, none⟩ u3).setCell ⟨A, 4, none⟩ u4).setCell ⟨A, 5, none⟩ u5
theorem six_blk {W : World} {A : Nat} {c0 c1 c2 c3 c4 c5 : Value} (h : W.heap[A]? = some (.cells #[c0, c1, c2, c3, c4, c5] 26 (0, 0))) (u0 u1 u2 u3 u4 u5 : Value) : (six W A u0 u1 u2 u3 u4 u5).heap[A]? = some (.cells #[u0, u1, u2, u3, u4, u5] 26 (0, 0)) :=
  blk_put (blk_put (blk_put (blk_put (blk_put (blk_put h 0 u0 rfl) 1 u1 rfl) 2 u2 rfl) 3 u3 rfl) 4 u4 rfl) 5 u5 rfl
theorem six_R {α : Type} {d : Kd α} {e base : Nat} {ok : Nat → Prop} {v : Value} {xs : List α} {W : World} {A : Nat} (h : d.R e W base ok v xs) (hne : ∀ k, ok k → k ≠ A) (u0 u1 u2 u3 u4 u5 : Value) : d.R e (six W A u0 u1 u2 u3 u4 u5) base ok v xs :=
  Kd.R_far (p := ⟨A, 5, none⟩) (Kd.R_far (p := ⟨A, 4, none⟩) (Kd.R_far (p := ⟨A, 3, none⟩) (Kd.R_far (p := ⟨A, 2, none⟩) (Kd.R_far (p := ⟨A, 1, none⟩) (Kd.R_far (p := ⟨A, 0, none⟩) h hne u0) hne u1) hne u2) hne u3) hne u4) hne u5
theorem six_below {lo : Nat} {w W : World} {A : Nat} (h : Below lo w W) (hA : lo ≤ A) (u0 u1 u2 u3 u4 u5 : Value) : Below lo w (six W A u0 u1 u2 u3 u4 u5) :=
  (((((h.setCell (p := ⟨A, 0, none⟩) hA u0).setCell (p := ⟨A, 1, none⟩) hA u1).setCell (p := ⟨A, 2, none⟩) hA u2).setCell (p := ⟨A, 3, none⟩) hA u3).setCell (p := ⟨A, 4, none⟩) hA u4).setCell (p := ⟨A, 5, none⟩) hA u5
set_option maxHeartbeats 8000000 in
set_option maxRecDepth 100000 in
theorem section_Parse.calls (k : Nat) (a0 : ByteArray) (r1 : List Int) (r2 : Int) (r3 : List ByteArray) (r4 : Bool) (r5 : Int) (r6 : Int) (r7 : Int) (w : World) (h : section_Parse.f k a0 = some (r1, r2, r3, r4, r5, r6, r7)) (hL : sec_Words w := by first | exact hL0 | exact sec_Words.below hL0 (by repeat (first | (with_reducible first | exact HB.out | apply below_alloc | apply pw_below_drewN | apply below_drew1 | refine below_set ?_ (Aside0.out (by assumption))) | exact HB.out))) :
    Calls Tryd.prog 8 #[.string a0] w fun e w' => ∃ v0_ v2_ : Value, e = .returned (.tuple #[.agg #[v0_, .int .i64 r2, v2_, .bool r4, .int .i64 r5, .int .i64 r6], .int .i64 r7]) ∧ Kd.R (Kd.int .i64) 3 w' w.heap.size (fun _ => True) v0_ r1 ∧ Kd.R Kd.string 9 w' w.heap.size (fun _ => True) v2_ r3 ∧ Below w.heap.size w w' := by
  have hu26 := Tryd.underlying26
  unfold section_Parse.f at h
  replace h := Option.bind_eq_some_iff.mp h
  obtain ⟨⟨s1, b1⟩, A1, h⟩ := h
  simp only at h
  replace h := Option.bind_eq_some_iff.mp h
  obtain ⟨⟨p, q, s2, b2⟩, A2, h⟩ := h
  simp only at h
  have H := Aside0.mk h
  have HA1 := Aside0.mk A1
  have HA2 := Aside0.mk A2
  have HL := Aside0.mk hL
  clear h A1 A2 hL
  go_enter Tryd.func8, Tryd.ntmps8
  go_wp2_with fail
  obtain ⟨h, hh⟩ : ∃ h, h = w.heap.size + 1 + 1 := ⟨_, rfl⟩
  obtain ⟨g, hg⟩ : ∃ g, g = w.heap.size + 1 := ⟨_, rfl⟩
  rw [← hh, ← hg]
  generalize hWa : World.alloc (World.alloc (World.alloc w _) _) _ = Wa
  have Hres : Wa.heap[w.heap.size]? = some (.cells #[.slice none 0 0, .int .i64 0, .slice none 0 0, .bool false, .int .i64 0, .int .i64 0] 26 (0, 0)) := by subst hWa; exact blk_alloc (blk_alloc (blk_new w _) _) _
  have Hg : Wa.heap[g]? = some (.cells #[.string a0, .bool false] 50 (0, 0)) := by subst hWa; have h1 := blk_alloc (blk_new (w.alloc (.cells #[.slice none 0 0, .int .i64 0, .slice none 0 0, .bool false, .int .i64 0, .int .i64 0] 26)) (.cells #[.string a0, .bool false] 50)) (.cells #[.slice none 0 0, .int .i64 0, .slice none 0 0, .bool false, .int .i64 0, .int .i64 0] 26); rw [show (w.alloc (.cells #[.slice none 0 0, .int .i64 0, .slice none 0 0, .bool false, .int .i64 0, .int .i64 0] 26)).heap.size = g by simp [hg]] at h1; exact h1
  have Hh : Wa.heap[h]? = some (.cells #[.slice none 0 0, .int .i64 0, .slice none 0 0, .bool false, .int .i64 0, .int .i64 0] 26 (0, 0)) := by subst hWa; have h1 := blk_new ((w.alloc (.cells #[.slice none 0 0, .int .i64 0, .slice none 0 0, .bool false, .int .i64 0, .int .i64 0] 26)).alloc (.cells #[.string a0, .bool false] 50)) (.cells #[.slice none 0 0, .int .i64 0, .slice none 0 0, .bool false, .int .i64 0, .int .i64 0] 26); rw [show ((w.alloc (.cells #[.slice none 0 0, .int .i64 0, .slice none 0 0, .bool false, .int .i64 0, .int .i64 0] 26)).alloc (.cells #[.string a0, .bool false] 50)).heap.size = h by simp [hh]] at h1; exact h1
  have B0 : Below w.heap.size w Wa := by subst hWa; exact below_alloc (below_alloc (below_alloc (Below.refl _ _) _) _) _
  have HAp := Aside0.mk (show w.heap.size ≠ g ∧ w.heap.size ≠ h ∧ h ≠ g ∧ w.heap.size ≤ w.heap.size ∧ w.heap.size ≤ h by omega)
  have hgw : w.heap.size ≤ g := by omega
  clear hWa hh hg
  refine (section_reader_need.calls g a0 false (⟨#[91]⟩ : ByteArray) s1 b1 w Wa ⟨Hg, hgw⟩ B0 HA1.out).mono ?_
  rintro e w1 ⟨rfl, hi1, hb1, hk1⟩
  have R1 := hk1.blk Hres HAp.out.1 (by simp)
  have W1 : WhI w w1 w1 g h s1 b1 (.slice none 0 0) [] 0 := ⟨hi1, hk1.blk Hh HAp.out.2.2.1 (by simp), Kd.R_nil _ _ _ _ _, Kept.refl _ _, hb1⟩
  have HR1 := Aside0.mk R1
  have HW1 := Aside0.mk W1
  clear Hres Hg Hh B0 hgw hi1 hb1 hk1 R1 W1
  go_wp2_with fail
  refine (sec_what_walk k g h s1 b1 p q s2 b2 w w1 HW1.out HAp.out.2.2.2.2 HL.out HA2.out).mono ?_
  rintro e w2 ⟨rfl, vp, hI2⟩
  have I2 := hI2.toPa HR1.out HAp.out HW1.out.bel.size
  obtain ⟨Ap, cp, rfl, hcp, hCp⟩ := Kd.R_reads I2.row
  have d0 := blk_cell I2.sp 0
  have d1 := blk_cell I2.sp 1
  have d2 := blk_cell I2.sp 2
  have d3 := blk_cell I2.sp 3
  have d4 := blk_cell I2.sp 4
  have d5 := blk_cell I2.sp 5
  have e1 := cellS50_1 I2.rd.1
  simp only [List.getElem?_toArray, List.getElem?_cons_zero, List.getElem?_cons_succ] at d0 d1 d2 d3 d4 d5
  have HI2 := Aside0.mk I2
  have HCp := Aside0.mk hCp
  have Hcp := Aside0.mk hcp
  clear hI2 I2 hCp hcp HW1 HR1 HA1 HA2
  obtain ⟨lst, hl1, hl2⟩ : ∃ lst, section_Spec_listed.f p q [] false 0 0 = some lst ∧ (lst = true ↔ (q = 2 ∨ q = 3)) := by
    unfold section_Spec_listed.f
    by_cases h2 : q = 2
    · exact ⟨true, by rw [if_pos h2], by simp [h2]⟩
    · exact ⟨q == 3, by rw [if_neg h2], by simp [h2]⟩
  have HLS := Aside0.mk hl1
  have hway : (lst = true ∧ b2 = false) ∨ (lst = true ∧ b2 = true) ∨ lst = false := by cases lst <;> cases b2 <;> simp
  rcases hway with ⟨rfl, rfl⟩ | ⟨rfl, rfl⟩ | rfl
  case' inl =>
    have h1 := H.out
    rw [if_pos ⟨hl2.1 rfl, rfl⟩] at h1
    replace h1 := Option.bind_eq_some_iff.mp h1
    obtain ⟨⟨nm1, s3, b3⟩, A1, h1⟩ := h1
    simp only at h1
    have HN := Aside0.mk A1
    have HX := Aside0.mk h1
    clear hl1 hl2 H h1 A1
    go_upto_region 7 with (first | (go_at_call 19; refine (section_Spec_listed.calls Ap cp p q none 0 [] false 0 0 true _ HCp.out Hcp.out (Kd.C_nil _ _) (by decide) HLS.out).mono ?_; rintro e w3 ⟨rfl, hB3⟩; have HI3 := Aside0.mk (HI2.out.below hB3); have e1 := cellS50_1 HI3.out.rd.1; clear hB3) | (go_at_call 20; refine (section_reader_names.calls k g s2 false nm1 s3 b3 w _ HI3.out.rd HI3.out.bel HN.out).mono ?_; rintro e w4 ⟨vn1, rfl, hR4, hi4, hb4, hk4⟩; obtain ⟨An, cn, rfl⟩ := Kd.R_slice hR4; have HI4 := Aside0.mk (HI3.out.next hi4 hb4 hk4); have HR4 := Aside0.mk (HI3.out.newer hR4); have e2 := blk_cell HI4.out.sp 2; have f2 := blk_frozen HI4.out.sp 2; clear hR4 hi4 hb4 hk4))
    obtain ⟨vn, nm, I3, h3⟩ : ∃ (vn : Value) (nm : List ByteArray), PaI w _ w.heap.size g h s3 b3 (.slice Ap p.length cp) p q vn nm false 0 0 ∧ sec_cut k p q nm s3 b3 = some (r1, r2, r3, r4, r5, r6, r7) := ⟨_, _, HI4.out.put 2 (.slice An nm1.length cn) HR4.out rfl, HX.out⟩
    have I3 := Aside0.mk I3
    have HX := Aside0.mk h3
    clear HI4 HR4 h3 e2 f2 HN e1 d0 d1 d2 d3 d4 d5 HI3 HLS HI2
  case' inr.inl =>
    have h1 := H.out
    rw [if_neg (fun h_ => by simp at h_)] at h1
    have HX0 := Aside0.mk h1
    clear hl1 hl2 H h1
    go_upto_region 7 with (go_at_call 19; refine (section_Spec_listed.calls Ap cp p q none 0 [] false 0 0 true _ HCp.out Hcp.out (Kd.C_nil _ _) (by decide) HLS.out).mono ?_; rintro e w3 ⟨rfl, hB3⟩; have HI3 := Aside0.mk (HI2.out.below hB3); have e1 := cellS50_1 HI3.out.rd.1; clear hB3)
    obtain ⟨vn, nm, s3, b3, I3, h3⟩ : ∃ (vn : Value) (nm : List ByteArray) (s3 : ByteArray) (b3 : Bool), PaI w w3 w.heap.size g h s3 b3 (.slice Ap p.length cp) p q vn nm false 0 0 ∧ sec_cut k p q nm s3 b3 = some (r1, r2, r3, r4, r5, r6, r7) := ⟨_, _, _, _, HI3.out, HX0.out⟩
    have I3 := Aside0.mk I3
    have HX := Aside0.mk h3
    clear HX0 h3 e1 d0 d1 d2 d3 d4 d5 HI3 HLS HI2
  case' inr.inr =>
    have h1 := H.out
    rw [if_neg (fun h_ => by have := hl2.2 h_.1; simp at this)] at h1
    have HX0 := Aside0.mk h1
    clear hl1 hl2 H h1
    go_upto_region 7 with (go_at_call 19; refine (section_Spec_listed.calls Ap cp p q none 0 [] false 0 0 false _ HCp.out Hcp.out (Kd.C_nil _ _) (by decide) HLS.out).mono ?_; rintro e w3 ⟨rfl, hB3⟩; have HI3 := Aside0.mk (HI2.out.below hB3); have e1 := cellS50_1 HI3.out.rd.1; clear hB3)
    obtain ⟨vn, nm, s3, b3, I3, h3⟩ : ∃ (vn : Value) (nm : List ByteArray) (s3 : ByteArray) (b3 : Bool), PaI w w3 w.heap.size g h s3 b3 (.slice Ap p.length cp) p q vn nm false 0 0 ∧ sec_cut k p q nm s3 b3 = some (r1, r2, r3, r4, r5, r6, r7) := ⟨_, _, _, _, HI3.out, HX0.out⟩
    have I3 := Aside0.mk I3
    have HX := Aside0.mk h3
    clear HX0 h3 e1 d0 d1 d2 d3 d4 d5 HI3 HLS HI2
  all_goals
    have h1 := HX.out
    unfold sec_cut at h1
    replace h1 := Option.bind_eq_some_iff.mp h1
    obtain ⟨⟨s4, b4⟩, A4, h1⟩ := h1
    simp only at h1
    replace h1 := Option.bind_eq_some_iff.mp h1
    obtain ⟨⟨is, s5, b5⟩, A5, h1⟩ := h1
    simp only at h1
    have H4 := Aside0.mk A4
    have H5 := Aside0.mk A5
    clear HX A4 A5
    rcases Bool.eq_false_or_eq_true is with rfl | rfl
    case' inl =>
      rw [if_pos rfl] at h1
      replace h1 := Option.bind_eq_some_iff.mp h1
      obtain ⟨⟨n1, s6, b6⟩, A6, h1⟩ := h1
      simp only at h1
      replace h1 := Option.bind_eq_some_iff.mp h1
      obtain ⟨⟨s7, b7⟩, A7, h1⟩ := h1
      simp only at h1
      replace h1 := Option.bind_eq_some_iff.mp h1
      obtain ⟨⟨n2, s8, b8⟩, A8, h1⟩ := h1
      simp only at h1
      replace h1 := Option.bind_eq_some_iff.mp h1
      obtain ⟨⟨s9, b9⟩, A9, h1⟩ := h1
      simp only at h1
      have H6 := Aside0.mk A6
      have H7 := Aside0.mk A7
      have H8 := Aside0.mk A8
      have H9 := Aside0.mk A9
      have HX := Aside0.mk h1
      clear A6 A7 A8 A9 h1
      go_upto_region 10 with (first | (go_at_call 17; refine (section_reader_need.calls g s3 b3 (⟨#[93]⟩ : ByteArray) s4 b4 w _ I3.out.rd I3.out.bel H4.out).mono ?_; rintro e x4 ⟨rfl, hi_, hb_, hk_⟩; have I4 := Aside0.mk (I3.out.next hi_ hb_ hk_); clear hi_ hb_ hk_) | (go_at_call 21; refine (section_reader_is.calls g s4 b4 (⟨#[60]⟩ : ByteArray) true s5 b5 w _ I4.out.rd I4.out.bel H5.out).mono ?_; rintro e x5 ⟨rfl, hi_, hb_, hk_⟩; have I5 := Aside0.mk (I4.out.next hi_ hb_ hk_); have e3 := blk_cell I5.out.sp 3; have f3 := blk_frozen I5.out.sp 3; clear hi_ hb_ hk_))
      have J5 := Aside0.mk (I5.out.put 3 (.bool true) I5.out.nrow (cut1 := true) (fr1 := 0) (mn1 := 0) rfl)
      clear I3 I4 I5 H4 H5 e3 f3
      go_upto_region 11 with (go_at_call 22; refine (section_reader_number.calls k g s5 b5 n1 s6 b6 w _ J5.out.rd J5.out.bel H6.out).mono ?_; rintro e x6 ⟨rfl, hi_, hb_, hk_⟩; have I6 := Aside0.mk (J5.out.next hi_ hb_ hk_); have e4 := blk_cell I6.out.sp 4; have f4 := blk_frozen I6.out.sp 4; clear hi_ hb_ hk_)
      have J6 := Aside0.mk (I6.out.put 4 (.int .i64 n1) I6.out.nrow (cut1 := true) (fr1 := n1) (mn1 := 0) rfl)
      clear J5 I6 e4 f4 H6
      go_upto_region 13 with (first | (go_at_call 17; refine (section_reader_need.calls g s6 b6 (⟨#[46]⟩ : ByteArray) s7 b7 w _ J6.out.rd J6.out.bel H7.out).mono ?_; rintro e x7 ⟨rfl, hi_, hb_, hk_⟩; have I7 := Aside0.mk (J6.out.next hi_ hb_ hk_); clear hi_ hb_ hk_) | (go_at_call 22; refine (section_reader_number.calls k g s7 b7 n2 s8 b8 w _ I7.out.rd I7.out.bel H8.out).mono ?_; rintro e x8 ⟨rfl, hi_, hb_, hk_⟩; have I8 := Aside0.mk (I7.out.next hi_ hb_ hk_); have e5 := blk_cell I8.out.sp 5; have f5 := blk_frozen I8.out.sp 5; clear hi_ hb_ hk_))
      have J8 := Aside0.mk (I8.out.put 5 (.int .i64 n2) I8.out.nrow (cut1 := true) (fr1 := n1) (mn1 := n2) rfl)
      clear J6 I7 I8 e5 f5 H7 H8
      go_upto_region 14 with (go_at_call 17; refine (section_reader_need.calls g s8 b8 (⟨#[62]⟩ : ByteArray) s9 b9 w _ J8.out.rd J8.out.bel H9.out).mono ?_; rintro e x9 ⟨rfl, hi_, hb_, hk_⟩; have I9 := Aside0.mk (J8.out.next hi_ hb_ hk_); clear hi_ hb_ hk_)
      obtain ⟨sz, bz, ct, fr, mn, IZ, h1⟩ : ∃ (sz : ByteArray) (bz ct : Bool) (fr mn : Int), PaI w _ w.heap.size g h sz bz (.slice Ap p.length cp) p q vn nm ct fr mn ∧ sec_last k p q nm sz bz ct fr mn = some (r1, r2, r3, r4, r5, r6, r7) := ⟨_, _, _, _, _, I9.out, HX.out⟩
      have IZ := Aside0.mk IZ
      have HX := Aside0.mk h1
      clear h1 I9 J8 H9
    case' inr =>
      rw [if_neg (by decide)] at h1
      have HX := Aside0.mk h1
      clear h1
      go_upto_region 14 with (first | (go_at_call 17; refine (section_reader_need.calls g s3 b3 (⟨#[93]⟩ : ByteArray) s4 b4 w _ I3.out.rd I3.out.bel H4.out).mono ?_; rintro e x4 ⟨rfl, hi_, hb_, hk_⟩; have I4 := Aside0.mk (I3.out.next hi_ hb_ hk_); clear hi_ hb_ hk_) | (go_at_call 21; refine (section_reader_is.calls g s4 b4 (⟨#[60]⟩ : ByteArray) false s5 b5 w _ I4.out.rd I4.out.bel H5.out).mono ?_; rintro e x5 ⟨rfl, hi_, hb_, hk_⟩; have I5 := Aside0.mk (I4.out.next hi_ hb_ hk_); clear hi_ hb_ hk_))
      obtain ⟨sz, bz, ct, fr, mn, IZ, h1⟩ : ∃ (sz : ByteArray) (bz ct : Bool) (fr mn : Int), PaI w _ w.heap.size g h sz bz (.slice Ap p.length cp) p q vn nm ct fr mn ∧ sec_last k p q nm sz bz ct fr mn = some (r1, r2, r3, r4, r5, r6, r7) := ⟨_, _, _, _, _, I5.out, HX.out⟩
      have IZ := Aside0.mk IZ
      have HX := Aside0.mk h1
      clear h1 I3 I4 I5 H4 H5
    all_goals
      obtain ⟨An, cn, rfl, hcn, hCn⟩ := Kd.R_reads IZ.out.nrow
      have d0 := blk_cell IZ.out.sp 0
      have d1 := blk_cell IZ.out.sp 1
      have d2 := blk_cell IZ.out.sp 2
      have d3 := blk_cell IZ.out.sp 3
      have d4 := blk_cell IZ.out.sp 4
      have d5 := blk_cell IZ.out.sp 5
      have c0 := cellS50_0 IZ.out.rd.1
      have c1 := cellS50_1 IZ.out.rd.1
      simp only [List.getElem?_toArray, List.getElem?_cons_zero, List.getElem?_cons_succ] at d0 d1 d2 d3 d4 d5
      have q0 := blk_cell IZ.out.res 0
      have q1 := blk_cell IZ.out.res 1
      have q2 := blk_cell IZ.out.res 2
      have q3 := blk_cell IZ.out.res 3
      have q4 := blk_cell IZ.out.res 4
      have q5 := blk_cell IZ.out.res 5
      simp only [List.getElem?_toArray, List.getElem?_cons_zero, List.getElem?_cons_succ] at q0 q1 q2 q3 q4 q5
      have p0 := blk_frozen IZ.out.res 0
      have p1 := blk_frozen IZ.out.res 1
      have p2 := blk_frozen IZ.out.res 2
      have p3 := blk_frozen IZ.out.res 3
      have p4 := blk_frozen IZ.out.res 4
      have p5 := blk_frozen IZ.out.res 5
      have HCn := Aside0.mk hCn
      have Hcn := Aside0.mk hcn
      clear hCn hcn
      have h1 := HX.out
      unfold sec_last at h1
      cases bz with
      | true =>
        rw [if_pos rfl] at h1
        have h2 := Option.some.inj h1
        simp only [sec_none, Prod.mk.injEq] at h2
        obtain ⟨rfl, rfl, rfl, rfl, rfl, rfl, rfl⟩ := h2
        clear HX h1
        go_wp2_with fail
        exact bodyPost_ret (results_ct rfl _ _ w.heap.size 26 _ (0, 0) _ rfl (six_blk IZ.out.res _ _ _ _ _ _) hu26 rfl (by kernel_rfl)) rfl ⟨_, _, rfl, Kd.R_nil _ _ _ _ _, Kd.R_nil _ _ _ _ _, six_below IZ.out.bel (Nat.le_refl _) _ _ _ _ _ _⟩
      | false =>
        rw [if_neg (by decide)] at h1
        by_cases hs : sz.toList = ([] : List UInt8)
        · rw [if_neg (fun h_ => h_ hs)] at h1
          have sb0 : (sz.toList == ([] : List UInt8)) = true := beq_iff_eq.mpr hs
          have sb1 : (sz.toList != ([] : List UInt8)) = false := bne_eq_false_iff_eq.mpr hs
          replace h1 := Option.bind_eq_some_iff.mp h1
          obtain ⟨ec, A1, h1⟩ := h1
          have HE := Aside0.mk A1
          have HCq := Aside0.mk (Kd.R_reads' IZ.out.row).2.2
          clear A1 hs HX
          by_cases he : ec = 0
          · rw [if_pos he] at h1
            have h2 := Option.some.inj h1
            simp only [Prod.mk.injEq] at h2
            obtain ⟨rfl, rfl, rfl, rfl, rfl, rfl, rfl⟩ := h2
            have eb0 : (ec == 0) = true := beq_iff_eq.mpr he
            have eb1 : (ec != 0) = false := bne_eq_false_iff_eq.mpr he
            clear h1 he
            go_wp2_with (go_at_call 12; refine (section_Check.calls k Ap cp p q An cn nm ct fr mn ec _ HCq.out Hcp.out HCn.out Hcn.out HE.out).mono ?_; rintro e y1 ⟨rfl, hB_⟩; have IW := Aside0.mk (IZ.out.below hB_); have d0 := blk_cell IW.out.sp 0; have d1 := blk_cell IW.out.sp 1; have d2 := blk_cell IW.out.sp 2; have d3 := blk_cell IW.out.sp 3; have d4 := blk_cell IW.out.sp 4; have d5 := blk_cell IW.out.sp 5; have q0 := blk_cell IW.out.res 0; have q1 := blk_cell IW.out.res 1; have q2 := blk_cell IW.out.res 2; have q3 := blk_cell IW.out.res 3; have q4 := blk_cell IW.out.res 4; have q5 := blk_cell IW.out.res 5; simp only [List.getElem?_toArray, List.getElem?_cons_zero, List.getElem?_cons_succ] at d0 d1 d2 d3 d4 d5 q0 q1 q2 q3 q4 q5; have p0 := blk_frozen IW.out.res 0; have p1 := blk_frozen IW.out.res 1; have p2 := blk_frozen IW.out.res 2; have p3 := blk_frozen IW.out.res 3; have p4 := blk_frozen IW.out.res 4; have p5 := blk_frozen IW.out.res 5; clear hB_)
            exact bodyPost_ret (results_ct rfl _ _ w.heap.size 26 _ (0, 0) _ rfl (six_blk IW.out.res _ _ _ _ _ _) hu26 rfl (by kernel_rfl)) rfl ⟨_, _, rfl, Kd.R_mono (six_R IW.out.row (fun _ hk => hk.1) _ _ _ _ _ _) (fun _ _ => trivial), Kd.R_mono (six_R IW.out.nrow (fun _ hk => hk.1) _ _ _ _ _ _) (fun _ _ => trivial), six_below IW.out.bel (Nat.le_refl _) _ _ _ _ _ _⟩
          · rw [if_neg he] at h1
            have h2 := Option.some.inj h1
            simp only [sec_none, Prod.mk.injEq] at h2
            obtain ⟨rfl, rfl, rfl, rfl, rfl, rfl, rfl⟩ := h2
            have eb0 : (ec == 0) = false := beq_eq_false_iff_ne.mpr he
            have eb1 : (ec != 0) = true := bne_iff_ne.mpr he
            clear h1 he
            go_wp2_with (go_at_call 12; refine (section_Check.calls k Ap cp p q An cn nm ct fr mn ec _ HCq.out Hcp.out HCn.out Hcn.out HE.out).mono ?_; rintro e y1 ⟨rfl, hB_⟩; have IW := Aside0.mk (IZ.out.below hB_); have d0 := blk_cell IW.out.sp 0; have d1 := blk_cell IW.out.sp 1; have d2 := blk_cell IW.out.sp 2; have d3 := blk_cell IW.out.sp 3; have d4 := blk_cell IW.out.sp 4; have d5 := blk_cell IW.out.sp 5; have q0 := blk_cell IW.out.res 0; have q1 := blk_cell IW.out.res 1; have q2 := blk_cell IW.out.res 2; have q3 := blk_cell IW.out.res 3; have q4 := blk_cell IW.out.res 4; have q5 := blk_cell IW.out.res 5; simp only [List.getElem?_toArray, List.getElem?_cons_zero, List.getElem?_cons_succ] at d0 d1 d2 d3 d4 d5 q0 q1 q2 q3 q4 q5; have p0 := blk_frozen IW.out.res 0; have p1 := blk_frozen IW.out.res 1; have p2 := blk_frozen IW.out.res 2; have p3 := blk_frozen IW.out.res 3; have p4 := blk_frozen IW.out.res 4; have p5 := blk_frozen IW.out.res 5; clear hB_)
            exact bodyPost_ret (results_ct rfl _ _ w.heap.size 26 _ (0, 0) _ rfl (six_blk IW.out.res _ _ _ _ _ _) hu26 rfl (by kernel_rfl)) rfl ⟨_, _, rfl, Kd.R_nil _ _ _ _ _, Kd.R_nil _ _ _ _ _, six_below IW.out.bel (Nat.le_refl _) _ _ _ _ _ _⟩
        · rw [if_pos hs] at h1
          have sb0 : (sz.toList == ([] : List UInt8)) = false := beq_eq_false_iff_ne.mpr hs
          have sb1 : (sz.toList != ([] : List UInt8)) = true := bne_iff_ne.mpr hs
          have h2 := Option.some.inj h1
          simp only [sec_none, Prod.mk.injEq] at h2
          obtain ⟨rfl, rfl, rfl, rfl, rfl, rfl, rfl⟩ := h2
          clear HX h1 hs
          go_wp2_with fail
          exact bodyPost_ret (results_ct rfl _ _ w.heap.size 26 _ (0, 0) _ rfl (six_blk IZ.out.res _ _ _ _ _ _) hu26 rfl (by kernel_rfl)) rfl ⟨_, _, rfl, Kd.R_nil _ _ _ _ _, Kd.R_nil _ _ _ _ _, six_below IZ.out.bel (Nat.le_refl _) _ _ _ _ _ _⟩

/-! ### chars_Digits: function 30 -/
def chars_Digits.l0 : Nat → Int → ByteArray → Bool → Option (ByteArray)
 | 0, _, _, _ => none
 | k + 1, x0, x3, x4 => if x0 = 0 then (if x4 = true then (if 1 + x3.size ≤ 9223372036854775807 then (some ((⟨#[45]⟩ : ByteArray) ++ x3)) else (none)) else (some x3)) else (if (Utf8.encode (wrap32 (wrap64 (48 + (mx (Int.tmod x0 10) (wrap64 (-(Int.tmod x0 10)))))))).size + x3.size ≤ 9223372036854775807 then (chars_Digits.l0 k (wrap64 (Int.tdiv x0 10)) ((Utf8.encode (wrap32 (wrap64 (48 + (mx (Int.tmod x0 10) (wrap64 (-(Int.tmod x0 10)))))))) ++ x3) x4) else (none))
def chars_Digits.f (k : Nat) (a0 : Int) : Option (ByteArray) := if a0 = 0 then (some (⟨#[48]⟩ : ByteArray)) else (chars_Digits.l0 k a0 (⟨#[]⟩ : ByteArray) (decide (a0 < 0)))
theorem chars_Digits.mono_l : ∀ k, (∀ y0 y1 y2, LeO (chars_Digits.l0 k y0 y1 y2) (chars_Digits.l0 (k + 1) y0 y1 y2))
 | 0 => fun _ _ _ r h => by simp [chars_Digits.l0] at h
 | k + 1 => by
  have ih0 := chars_Digits.mono_l k
  ·intro y0 y1 y2
   unfold chars_Digits.l0
   repeat' first
   | (with_reducible exact ih0 _ _ _)
   | (with_reducible exact LeO.refl _)
   | (with_reducible exact LeO.none _)
   | (with_reducible refine LeO.ite ?_ ?_)
   | (with_reducible refine LeO.bind ?_ (fun _ => ?_))
   | exact ih0 _ _ _
   | exact LeO.none _
   | refine LeO.ite ?_ ?_
   | refine LeO.bind ?_ (fun _ => ?_)
theorem chars_Digits.mono : ∀ a0 k, LeO (chars_Digits.f k a0) (chars_Digits.f (k + 1) a0) := by
 intro a0 k
 have ih0 := chars_Digits.mono_l k
 unfold chars_Digits.f
 repeat' first
   | (with_reducible exact ih0 _ _ _)
   | (with_reducible exact LeO.refl _)
   | (with_reducible exact LeO.none _)
   | (with_reducible refine LeO.ite ?_ ?_)
   | (with_reducible refine LeO.bind ?_ (fun _ => ?_))
   | exact ih0 _ _ _
   | exact LeO.none _
   | refine LeO.ite ?_ ?_
   | refine LeO.bind ?_ (fun _ => ?_)
set_option maxHeartbeats 8000000 in
set_option maxRecDepth 100000 in
theorem chars_Digits.calls (k : Nat) (a0 : Int) (r : ByteArray) (w : World) (h : chars_Digits.f k a0 = some r) :
  Calls Tryd.prog 30 #[.int .i64 a0] w fun e w' => e = .returned (.string r) ∧ Below w.heap.size w w' := by
 have HB := Aside0.mk (Below.refl w.heap.size w)
 have H : (if a0 = 0 then (some (⟨#[48]⟩ : ByteArray)) else (chars_Digits.l0 k a0 (⟨#[]⟩ : ByteArray) (decide (a0 < 0)))) = some r := h
 clear h
 by_cases c2 : a0 = 0
 ·rw [if_pos c2] at H
  have c2b0 : (a0 == 0) = true := beq_iff_eq.mpr c2
  have c2b1 : (a0 != 0) = false := bne_eq_false_iff_eq.mpr c2
  clear c2
  obtain rfl := Option.some.inj H
  go_enter Tryd.func30, Tryd.ntmps30
  go_wp2
  go_ret
  exact ⟨qw_, qb_ HB.out⟩
 ·rw [if_neg c2] at H
  have c2b0 : (a0 == 0) = false := beq_eq_false_iff_ne.mpr c2
  have c2b1 : (a0 != 0) = true := bne_iff_ne.mpr c2
  have H' := Aside0.mk H
  clear H
  go_enter Tryd.func30, Tryd.ntmps30
  go_wp2
  go_loopg [0, 3] k (fun kq v0 v3 w' => ∃ (x0_1 : Int) (x3_1 : ByteArray), v0 = .int .i64 x0_1 ∧ v3 = .string x3_1 ∧ Aside0 (chars_Digits.l0 kq x0_1 x3_1 (decide (a0 < 0)) = some r) ∧ Aside0 (kq ≤ k) ∧ Aside0 (Below w.heap.size w w'))
  case atStart => exact ⟨(a0), ((⟨#[]⟩ : ByteArray)), qr_, qr_, H', ⟨Nat.le_refl _⟩, ⟨qb_ HB.out⟩⟩
  case round =>
   clear H'
   obtain ⟨x0_1, x3_1, rfl, rfl, HA, HK1, HB⟩ := hrel
   cases gk with
   | zero => exact absurd HA.out (by simp [chars_Digits.l0])
   | succ k1 =>
    have H := HA.out
    clear HA
    simp only [chars_Digits.l0] at H
    by_cases c3 : x0_1 = 0
    ·rw [if_pos c3] at H
     have c3b0 : (x0_1 == 0) = true := beq_iff_eq.mpr c3
     have c3b1 : (x0_1 != 0) = false := bne_eq_false_iff_eq.mpr c3
     clear c3
     by_cases c4 : (decide (a0 < 0)) = true
     ·rw [if_pos c4] at H
      have c4b0 : (decide (a0 < 0)) = true := c4
      have c4b6 : (a0 < 0) := of_decide_eq_true c4b0
      clear c4
      by_cases c5 : 1 + x3_1.size ≤ 9223372036854775807
      ·rw [if_pos c5] at H
       have c5b0 := eq_true c5
       have c5b1 : decide (1 + x3_1.size ≤ 9223372036854775807) = true := decide_eq_true c5
       try have c5b2 : (9223372036854775807 < 1 + x3_1.size) = False := eq_false (Nat.not_lt.2 c5)
       obtain rfl := Option.some.inj H
       go_wp2
       go_ret
       exact ⟨qw_, qb_ HB.out⟩
      ·rw [if_neg c5] at H
       exact absurd H (by simp)
     ·rw [if_neg c4] at H
      have c4b0 : (decide (a0 < 0)) = false := by simpa using c4
      have c4b6 : ¬ (a0 < 0) := of_decide_eq_false c4b0
      clear c4
      obtain rfl := Option.some.inj H
      go_wp2
      go_ret
      exact ⟨qw_, qb_ HB.out⟩
    ·rw [if_neg c3] at H
     have c3b0 : (x0_1 == 0) = false := beq_eq_false_iff_ne.mpr c3
     have c3b1 : (x0_1 != 0) = true := bne_iff_ne.mpr c3
     obtain ⟨ji6, hji6⟩ : ∃ j_ : Int, (mx (Int.tmod x0_1 10) (wrap64 (-(Int.tmod x0_1 10)))) = j_ := ⟨_, rfl⟩
     replace H : (if (Utf8.encode (wrap32 (wrap64 (48 + (ji6))))).size + x3_1.size ≤ 9223372036854775807 then (chars_Digits.l0 k1 (wrap64 (Int.tdiv x0_1 10)) ((Utf8.encode (wrap32 (wrap64 (48 + (ji6))))) ++ x3_1) (decide (a0 < 0))) else (none)) = some r := by first | (rw [hji6] at H; exact H) | (simp only [hji6] at H ⊢; exact H)
     have hji6_ : (if (Int.tmod x0_1 10) < (wrap64 (-(Int.tmod x0_1 10))) then (wrap64 (-(Int.tmod x0_1 10))) else (Int.tmod x0_1 10)) = ji6 := hji6
     by_cases c7 : (Utf8.encode (wrap32 (wrap64 (48 + (ji6))))).size + x3_1.size ≤ 9223372036854775807
     ·rw [if_pos c7] at H
      have c7b0 := eq_true c7
      have c7b1 : decide ((Utf8.encode (wrap32 (wrap64 (48 + (ji6))))).size + x3_1.size ≤ 9223372036854775807) = true := decide_eq_true c7
      try have c7b2 : (9223372036854775807 < (Utf8.encode (wrap32 (wrap64 (48 + (ji6))))).size + x3_1.size) = False := eq_false (Nat.not_lt.2 c7)
      have H' := Aside0.mk H
      clear H
      go_wp2
      go_roundg k1
      case measure => have := HK1.out; omega
      case rel => exact ⟨(wrap64 (Int.tdiv x0_1 10)), ((Utf8.encode (wrap32 (wrap64 (48 + (ji6))))) ++ x3_1), qr_, (by first | rfl | (simp; done) | (simp only [← hji6] <;> (first | rfl | simp)) | (simp [*]; done)), H', ⟨by have := HK1.out; omega⟩, ⟨qb_ HB.out⟩⟩
     ·rw [if_neg c7] at H
      exact absurd H (by simp)

-- NOT PRINTED: function 61 (abi_NoEscape)

-- NOT PRINTED: function 56 (strings_Builder_copyCheck)

-- NOT PRINTED: function 62 (bytealg_MakeNoZero)

-- NOT PRINTED: function 57 (strings_Builder_grow)

-- NOT PRINTED: function 47 (strings_Builder_Grow)

-- NOT PRINTED: function 48 (strings_Builder_WriteString)

-- NOT PRINTED: function 49 (strings_Builder_String)

/-! ### strings_Join: function 31 -/
def strings_Join.f (l0 : List ByteArray) (a1 : ByteArray) : Option ByteArray := if l0.length ≤ 100000 ∧ (Lib.join (l0.map (·.data.toList)) a1.data.toList).length ≤ 140737488355328 then some (sq_join l0 a1) else none
theorem strings_Join.calls (A0 : Option Addr) (c0 : Nat) (l0 : List ByteArray) (a1 : ByteArray) (r : ByteArray) (w : World) (hr0 : Kd.C Kd.string w A0 l0.length l0) (hc0 : l0.length ≤ c0) (h : strings_Join.f l0 a1 = some r) :
    Calls Tryd.prog 31 #[.slice A0 l0.length c0, .string a1] w fun e w' => e = .returned (.string r) ∧ Below w.heap.size w w' := by
  unfold strings_Join.f at h
  by_cases hl : l0.length ≤ 100000 ∧ (Lib.join (l0.map (·.data.toList)) a1.data.toList).length ≤ 140737488355328
  · rw [if_pos hl] at h
    obtain rfl := Option.some.inj h
    exact sq_Join A0 c0 l0 a1 w hr0 hc0 (by omega) hl.2
  · rw [if_neg hl] at h
    exact absurd h (by simp)

/-! ### section_atom: function 32 -/
def section_atom.l0 : Nat → ByteArray → Int → Int → Option (Bool)
 | 0, _, _, _ => none
 | k + 1, x0, x5, x6 => if x6 < x5 then (if 0 ≤ x6 then (if x6 < (x0.size : Int) then ((chars_Atom.f (bt x0 x6)).bind fun t163 => (if t163 = true then (section_atom.l0 k x0 x5 (wrap64 (x6 + 1))) else (some false))) else (none)) else (none)) else (some (x0.toList != ([] : List UInt8)))
def section_atom.f (k : Nat) (a0 : ByteArray) : Option (Bool) := section_atom.l0 k a0 (a0.size : Int) 0
theorem section_atom.mono_l : ∀ k, (∀ y0 y1 y2, LeO (section_atom.l0 k y0 y1 y2) (section_atom.l0 (k + 1) y0 y1 y2))
 | 0 => fun _ _ _ r h => by simp [section_atom.l0] at h
 | k + 1 => by
  have ih0 := section_atom.mono_l k
  ·intro y0 y1 y2
   unfold section_atom.l0
   repeat' first
   | (with_reducible exact ih0 _ _ _)
   | (with_reducible exact LeO.refl _)
   | (with_reducible exact LeO.none _)
   | (with_reducible refine LeO.ite ?_ ?_)
   | (with_reducible refine LeO.bind ?_ (fun _ => ?_))
   | exact ih0 _ _ _
   | exact LeO.none _
   | refine LeO.ite ?_ ?_
   | refine LeO.bind ?_ (fun _ => ?_)
theorem section_atom.mono : ∀ a0 k, LeO (section_atom.f k a0) (section_atom.f (k + 1) a0) := by
 intro a0 k
 have ih0 := section_atom.mono_l k
 unfold section_atom.f
 repeat' first
   | (with_reducible exact ih0 _ _ _)
   | (with_reducible exact LeO.refl _)
   | (with_reducible exact LeO.none _)
   | (with_reducible refine LeO.ite ?_ ?_)
   | (with_reducible refine LeO.bind ?_ (fun _ => ?_))
   | exact ih0 _ _ _
   | exact LeO.none _
   | refine LeO.ite ?_ ?_
   | refine LeO.bind ?_ (fun _ => ?_)
set_option maxHeartbeats 8000000 in
set_option maxRecDepth 100000 in
theorem section_atom.calls (k : Nat) (a0 : ByteArray) (r : Bool) (w : World) (h : section_atom.f k a0 = some r) :
  Calls Tryd.prog 32 #[.string a0] w fun e w' => e = .returned (.bool r) ∧ Below w.heap.size w w' := by
 have HB := Aside0.mk (Below.refl w.heap.size w)
 have H : (section_atom.l0 k a0 (a0.size : Int) 0) = some r := h
 clear h
 have H' := Aside0.mk H
 clear H
 go_enter Tryd.func32, Tryd.ntmps32
 go_wp2
 go_loopg [6] k (fun kq v6 w' => ∃ (x6_1 : Int), v6 = .int .i64 x6_1 ∧ Aside0 (section_atom.l0 kq a0 (a0.size : Int) x6_1 = some r) ∧ Aside0 (kq ≤ k) ∧ Aside0 (Below w.heap.size w w'))
 case atStart => exact ⟨(0), qr_, H', ⟨Nat.le_refl _⟩, ⟨qb_ HB.out⟩⟩
 case round =>
  clear H'
  obtain ⟨x6_1, rfl, HA, HK1, HB⟩ := hrel
  cases gk with
  | zero => exact absurd HA.out (by simp [section_atom.l0])
  | succ k1 =>
   have H := HA.out
   clear HA
   simp only [section_atom.l0] at H
   by_cases c2 : x6_1 < (a0.size : Int)
   ·rw [if_pos c2] at H
    have c2b0 : decide (x6_1 < (a0.size : Int)) = true := decide_eq_true c2
    clear c2
    by_cases c3 : 0 ≤ x6_1
    ·rw [if_pos c3] at H
     have c3b0 : decide (0 ≤ x6_1) = true := decide_eq_true c3
     clear c3
     by_cases c4 : x6_1 < (a0.size : Int)
     ·rw [if_pos c4] at H
      have c4b0 : decide (x6_1 < (a0.size : Int)) = true := decide_eq_true c4
      clear c4
      replace H := Option.bind_eq_some_iff.mp H
      obtain ⟨t163, A60, H⟩ := H
      replace H : (if t163 = true then (section_atom.l0 k1 a0 (a0.size : Int) (wrap64 (x6_1 + 1))) else (some false)) = some r := H
      have A6 := Aside0.mk A60
      clear A60
      by_cases c7 : t163 = true
      ·subst c7
       have H1 : (section_atom.l0 k1 a0 (a0.size : Int) (wrap64 (x6_1 + 1))) = some r := by rw [if_pos rfl] at H; exact H
       clear H
       have H := H1
       clear H1
       have H' := Aside0.mk H
       clear H
       have p5 : 0 ≤ (x6_1 : Int) := qd_
       have q5 : x6_1 < (a0.size : Int) := qd_
       have hx5 := bt_at a0 x6_1
       replace p5 := eq_true p5
       replace q5 := eq_true q5
       go_wp2_with (first | ((with_reducible refine gate_callee (f := 50) rfl ?_); refine goesL_ (some 12) rfl rfl Tryd.func50 (by kernel_rfl) rfl #[.int .u8 (bt a0 x6_1)] rfl qa_ ?_; (with_reducible refine (chars_Atom.calls (bt a0 x6_1) true _ A6.out).mono ?_); rintro e w8 ⟨rfl, hb⟩; refine ⟨_, rfl, ?_⟩; have n0_ := Aside0.mk (below_step (qb_ HB.out) hb); clear HB; have HB := n0_; clear n0_; (try clear hb); (try clear hb2); (try clear hk); (try clear hi)))
       go_roundg k1
       case measure => have := HK1.out; omega
       case rel => exact ⟨(wrap64 (x6_1 + 1)), qr_, H', ⟨by have := HK1.out; omega⟩, ⟨qb_ HB.out⟩⟩
      ·replace c7 := Bool.eq_false_iff.mpr c7
       subst c7
       have H1 : (some false) = some r := by rw [if_neg (show ¬ (false = true) by decide)] at H; exact H
       clear H
       have H := H1
       clear H1
       obtain rfl := Option.some.inj H
       have p5 : 0 ≤ (x6_1 : Int) := qd_
       have q5 : x6_1 < (a0.size : Int) := qd_
       have hx5 := bt_at a0 x6_1
       replace p5 := eq_true p5
       replace q5 := eq_true q5
       go_wp2_with (first | ((with_reducible refine gate_callee (f := 50) rfl ?_); refine goesL_ (some 12) rfl rfl Tryd.func50 (by kernel_rfl) rfl #[.int .u8 (bt a0 x6_1)] rfl qa_ ?_; (with_reducible refine (chars_Atom.calls (bt a0 x6_1) false _ A6.out).mono ?_); rintro e w9 ⟨rfl, hb⟩; refine ⟨_, rfl, ?_⟩; have n0_ := Aside0.mk (below_step (qb_ HB.out) hb); clear HB; have HB := n0_; clear n0_; (try clear hb); (try clear hb2); (try clear hk); (try clear hi)))
       go_ret
       exact ⟨by first | rfl | (simp [errW_none, errW_some] <;> rfl) | (simp [*, errW_none, errW_some] <;> rfl) | (cases h_ : ByteArray.toList a0 <;> simp [h_]; done), qb_ HB.out⟩
     ·rw [if_neg c4] at H
      exact absurd H (by simp)
    ·rw [if_neg c3] at H
     exact absurd H (by simp)
   ·rw [if_neg c2] at H
    have c2b0 : decide (x6_1 < (a0.size : Int)) = false := decide_eq_false c2
    clear c2
    obtain rfl := Option.some.inj H
    go_wp2
    go_ret
    exact ⟨by first | rfl | (simp [errW_none, errW_some] <;> rfl) | (simp [*, errW_none, errW_some] <;> rfl) | (cases h_ : ByteArray.toList a0 <;> simp [h_]; done), qb_ HB.out⟩

end Go.Proofs.YtbjbagocnnffaaaDoor.P
