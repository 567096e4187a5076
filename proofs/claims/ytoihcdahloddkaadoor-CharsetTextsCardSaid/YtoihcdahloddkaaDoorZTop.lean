import Derived.Test.YtoihcdahloddkaaDoorZByt
import Derived.Test.YtoihcdahloddkaaDoorZVS
import Derived.Test.YtoihcdahloddkaaDoorWTab
namespace Go.Proofs.YtoihcdahloddkaaDoor.P
open Go.RowKit Go.Proofs.YtoihcdahloddkaaDoorW.PrintWords Go.Proofs.YtoihcdahloddkaaDoorW.PrintLast Go.Proofs.YtoihcdahloddkaaDoorW.PrintMore Go.Proofs.YtoihcdahloddkaaDoor.Aids
attribute [-simp] Int.tmod_tmod_of_dvd
set_option linter.unusedVariables false
set_option linter.unusedSimpArgs false
/-- what the listed tables say of a world -/
def cs_Tabs (w : World) : Prop := Lib.Utf8Tabs 0 1 w
theorem cs_Tabs.below {w w1 : World} (h : cs_Tabs w) (hb : Below w.heap.size w w1) : cs_Tabs w1 := Utf8Tabs_below h hb
/-- bytes of a charset as a text -/
def cs_textv (k : Nat) (b : List Int) : ByteArray × Int := if k = 0 then (⟨#[]⟩, 21) else if k = 3 then (if validL b = true then (strOfNums b, 0) else (⟨#[]⟩, 21)) else if (txtL (if k = 1 then 128 else 256) b).2 = true then ((txtL (if k = 1 then 128 else 256) b).1, 0) else (⟨#[]⟩, 21)
def cs_bytv (k : Nat) (s : ByteArray) : List Int × Int := if k = 0 then ([], 21) else if Lib.validD s.data.toList = false then ([], 21) else if k = 3 then (bytesOf s, 0) else if (bytL (if k = 1 then 128 else 256) s (s.size + 1) 0 []).2 = true then ((bytL (if k = 1 then 128 else 256) s (s.size + 1) 0 []).1, 0) else ([], 21)
set_option maxHeartbeats 4000000 in
theorem cs_wide (A : Option Addr) (c : Nat) (l : List Int) (z : Int) (w : World) (hC : Kd.C (Kd.int .u8) w A l.length l) (hc : l.length ≤ c) (hl : l.length < 1000000) (hb : byte l) (hT : cs_Tabs w) :
    Calls Tryd.prog 22 #[.agg #[.int .i32 z], .slice A l.length c] w fun e w' => e = .returned (.tuple #[.string (strOfNums l), .bool (validL l)]) ∧ Below w.heap.size w w' := by
  have HC := Aside0.mk hC
  have HB := Aside0.mk hb
  have HT := Aside0.mk hT
  clear hC hb hT
  go_enter Tryd.func22, Tryd.ntmps22
  go_wp2_with fail
  have al := below_alloc (Below.refl w.heap.size w) (.cells #[.int .i32 z] 36)
  have HAl := Aside0.mk al
  clear al
  refine start_ (n := 6) (S := fun w' => Kd.C (Kd.int .u8) w' A l.length l) (ds := []) #[false, false, false, false, false, false] (by kernel_rfl) rfl rfl (Kd.C_drew (Kd.C_below HC.out HAl.out)) (fun hHeld => ?_)
  refine pure_ (i := 0) (N := some 6) (v := ?_) (a' := ?_) #[true, false, false, false, false, false] rfl rfl (by kernel_rfl) (fun _ _ _ h => h) (Or.inl ⟨by rfl, ?_⟩) ?_ ?_
  rotate_left
  · intro w'
    go_simp
    with_reducible rfl
  rotate_left
  · simp only [Act.put, List.setIfInBounds_toArray, List.set_cons_zero, List.set_cons_succ, i64_w, i32_w]
    rfl
  refine pure_ (i := 2) (N := some 8) (v := ?_) (a' := ?_) #[true, false, true, false, false, false] rfl rfl (by kernel_rfl) (fun _ _ _ h => h) (Or.inl ⟨by rfl, ?_⟩) ?_ ?_
  rotate_left
  · intro w'
    go_simp
    with_reducible rfl
  rotate_left
  · simp only [Act.put, List.setIfInBounds_toArray, List.set_cons_zero, List.set_cons_succ, i64_w, i32_w]
    rfl
  refine take_ (i := 1) (N := some 7) (v := ?_) (a' := ?_) #[true, true, true, false, false, false] rfl rfl (by kernel_rfl) (fun _ _ _ h => h) (Or.inl ⟨by rfl, ?_⟩) hHeld ?_ ?_
  rotate_left
  · intro w' s0
    have hcv := Kd.C_string (P := Tryd.prog) (A := A) (c := c) Tryd.underlying22 Tryd.underlying5 Tryd.underlying9 s0
    go_simp
    with_reducible rfl
  rotate_left
  · simp only [Act.put, List.setIfInBounds_toArray, List.set_cons_zero, List.set_cons_succ, i64_w, i32_w]
    rfl
  refine one_ (i := 3) (N := some 9) #[true, true, true, true, false, false] rfl rfl (by kernel_rfl) (by decide) (fun K hK => ?_)
  refine goes_ Tryd.func28 (by kernel_rfl) rfl #[.slice A l.length c] (by rfl) rfl rfl (by simp only [List.map_toArray, List.map_cons, List.map_nil]; rfl) ?_
  have hT3 : Lib.Utf8Tabs 0 1 (w.alloc (.cells #[.int .i32 z] 36)).drew := cs_Tabs.below HT.out HAl.out.drew
  with_reducible refine (cs_Valid A c l _ hHeld hc hl HB.out hT3).mono ?_
  rintro e w3 ⟨rfl, hb3⟩
  refine ⟨_, rfl, ?_⟩
  refine hK _ _ (Kd.C_below hHeld hb3) (fun hHeld => ?_)
  clear hK K
  refine norm_ (a' := ?_) ?_ ?_
  rotate_left
  · show Act.put _ (some 9) _ = _
    simp only [Act.put, List.setIfInBounds_toArray, List.set_cons_zero, List.set_cons_succ, i64_w, i32_w]
    rfl
  refine pure_ (i := 4) (N := some 4) (v := ?_) (a' := ?_) #[true, true, true, true, true, false] rfl rfl (by kernel_rfl) (fun _ _ _ h => h) (Or.inl ⟨by rfl, ?_⟩) ?_ ?_
  rotate_left
  · intro w'
    go_simp
    with_reducible rfl
  rotate_left
  · simp only [Act.put, List.setIfInBounds_toArray, List.set_cons_zero, List.set_cons_succ, i64_w, i32_w]
    rfl
  refine pure_ (i := 5) (N := some 5) (v := ?_) (a' := ?_) #[true, true, true, true, true, true] rfl rfl (by kernel_rfl) (fun _ _ _ h => h) (Or.inl ⟨by rfl, ?_⟩) ?_ ?_
  rotate_left
  · intro w'
    go_simp
    with_reducible rfl
  rotate_left
  · simp only [Act.put, List.setIfInBounds_toArray, List.set_cons_zero, List.set_cons_succ, i64_w, i32_w]
    rfl
  refine done_ (by kernel_rfl) ?_
  have HB3 := Aside0.mk hb3
  clear hb3 hHeld hT3
  go_wp2
  go_ret2
  exact ⟨rfl, (HAl.out.drew).trans (HB3.out.mono (HAl.out.drew).size)⟩
theorem cs_known (s : ByteArray) (w : World) (hs : s.size ≤ 9223372036854775807) : Calls Tryd.prog 12 #[.string s] w fun e w' => e = .returned (.bool (cs_kind (cs_fold s) != 0)) ∧ Below w.heap.size w w' := by
  have k4 := cs_kind4 (cs_fold s)
  have hF := fun w => cs_find s w hs
  generalize cs_kind (cs_fold s) = k at *
  have HF := Aside0.mk hF
  clear hF
  go_enter Tryd.func12, Tryd.ntmps12
  rcases k4 with rfl | rfl | rfl | rfl
  all_goals
    go_wp2_with (go_at_call 14; refine (HF.out _).mono ?_; rintro e w2 ⟨rfl, hb⟩; have HB2 := Aside0.mk hb; clear hb; simp only [cs_way, cs_cells, if_true, if_false, Nat.reduceEqDiff])
    go_ret
    exact ⟨rfl, (HB2.out.alloc HB2.out.size _)⟩
set_option maxHeartbeats 4000000 in
theorem cs_Text (name : ByteArray) (A : Option Addr) (c : Nat) (l : List Int) (w : World) (hs : name.size ≤ 9223372036854775807) (hC : Kd.C (Kd.int .u8) w A l.length l) (hc : l.length ≤ c) (hl : l.length < 1000000) (hb : byte l) (hT : cs_Tabs w) :
    Calls Tryd.prog 8 #[.string name, .slice A l.length c] w fun e w' => e = .returned (.tuple #[.string (cs_textv (cs_kind (cs_fold name)) l).1, .int .i64 (cs_textv (cs_kind (cs_fold name)) l).2]) ∧ Below w.heap.size w w' := by
  have k4 := cs_kind4 (cs_fold name)
  have hF := fun w => cs_find name w hs
  generalize cs_kind (cs_fold name) = k at *
  have HF := Aside0.mk hF
  have HC := Aside0.mk hC
  have HB := Aside0.mk hb
  have HT := Aside0.mk hT
  clear hF hC hb hT
  rcases k4 with rfl | rfl | rfl | rfl
  · have HR : Aside0 (cs_textv 0 l = (⟨#[]⟩, 21)) := ⟨rfl⟩
    go_enter Tryd.func8, Tryd.ntmps8
    go_wp2_with (go_at_call 14; refine (HF.out _).mono ?_; rintro e w2 ⟨rfl, hb⟩; have HB2 := Aside0.mk hb; clear hb; simp only [cs_way, cs_cells, if_true, if_false, Nat.reduceEqDiff])
    go_ret2
    exact ⟨by rw [HR.out]; rfl, HB2.out.alloc HB2.out.size _⟩
  · obtain ⟨⟨X, ok⟩, hX⟩ : ∃ X, txtL 128 l = X := ⟨_, rfl⟩
    have HR : Aside0 (cs_textv 1 l = if ok = true then (X, 0) else (⟨#[]⟩, 21)) := ⟨by unfold cs_textv; rw [if_neg (by decide), if_neg (by decide)]; simp only [if_true]; rw [hX]⟩
    have HX : Aside0 (∀ w, Kd.C (Kd.int .u8) w A l.length l → Calls Tryd.prog 20 #[.agg #[.int .i32 128], .slice A l.length c] w fun e w' => e = .returned (.tuple #[.string X, .bool ok]) ∧ Below w.heap.size w w') := ⟨fun w h => by have := cs_text A c l 128 w h hl HB.out; rw [hX] at this; exact this⟩
    clear hX
    go_enter Tryd.func8, Tryd.ntmps8
    cases ok
    all_goals
      go_wp2_with (first | (go_at_call 14; refine (HF.out _).mono ?_; rintro e w2 ⟨rfl, hb⟩; have HB2 := Aside0.mk hb; clear hb; simp only [cs_way, cs_cells, if_true, if_false, Nat.reduceEqDiff]) | (go_at_call 20; refine (HX.out _ (Kd.C_below HC.out (HB2.out.alloc HB2.out.size _))).mono ?_; rintro e w3 ⟨rfl, hb⟩; have HB3 := Aside0.mk hb; clear hb))
      go_ret2
      exact ⟨by rw [HR.out]; rfl, (HB2.out.alloc HB2.out.size _).trans (HB3.out.mono (HB2.out.alloc HB2.out.size _).size)⟩
  · obtain ⟨⟨X, ok⟩, hX⟩ : ∃ X, txtL 256 l = X := ⟨_, rfl⟩
    have HR : Aside0 (cs_textv 2 l = if ok = true then (X, 0) else (⟨#[]⟩, 21)) := ⟨by unfold cs_textv; rw [if_neg (by decide), if_neg (by decide)]; simp only [show (2 : Nat) = 1 ↔ False from by decide, if_false]; rw [hX]⟩
    have HX : Aside0 (∀ w, Kd.C (Kd.int .u8) w A l.length l → Calls Tryd.prog 20 #[.agg #[.int .i32 256], .slice A l.length c] w fun e w' => e = .returned (.tuple #[.string X, .bool ok]) ∧ Below w.heap.size w w') := ⟨fun w h => by have := cs_text A c l 256 w h hl HB.out; rw [hX] at this; exact this⟩
    clear hX
    go_enter Tryd.func8, Tryd.ntmps8
    cases ok
    all_goals
      go_wp2_with (first | (go_at_call 14; refine (HF.out _).mono ?_; rintro e w2 ⟨rfl, hb⟩; have HB2 := Aside0.mk hb; clear hb; simp only [cs_way, cs_cells, if_true, if_false, Nat.reduceEqDiff]) | (go_at_call 20; refine (HX.out _ (Kd.C_below HC.out (HB2.out.alloc HB2.out.size _))).mono ?_; rintro e w3 ⟨rfl, hb⟩; have HB3 := Aside0.mk hb; clear hb))
      go_ret2
      exact ⟨by rw [HR.out]; rfl, (HB2.out.alloc HB2.out.size _).trans (HB3.out.mono (HB2.out.alloc HB2.out.size _).size)⟩
  · obtain ⟨ok, hX⟩ : ∃ ok, validL l = ok := ⟨_, rfl⟩
    have HR : Aside0 (cs_textv 3 l = if ok = true then (strOfNums l, 0) else (⟨#[]⟩, 21)) := ⟨by unfold cs_textv; rw [if_neg (by decide), if_pos rfl, hX]⟩
    have HX : Aside0 (∀ w, Kd.C (Kd.int .u8) w A l.length l → cs_Tabs w → Calls Tryd.prog 22 #[.agg #[.int .i32 0], .slice A l.length c] w fun e w' => e = .returned (.tuple #[.string (strOfNums l), .bool ok]) ∧ Below w.heap.size w w') := ⟨fun w h h2 => by have := cs_wide A c l 0 w h hc hl HB.out h2; rw [hX] at this; exact this⟩
    clear hX
    go_enter Tryd.func8, Tryd.ntmps8
    cases ok
    all_goals
      go_wp2_with (first | (go_at_call 14; refine (HF.out _).mono ?_; rintro e w2 ⟨rfl, hb⟩; have HB2 := Aside0.mk hb; clear hb; simp only [cs_way, cs_cells, if_true, if_false, Nat.reduceEqDiff]) | (go_at_call 22; refine (HX.out _ (Kd.C_below HC.out (HB2.out.alloc HB2.out.size _)) (HT.out.below (HB2.out.alloc HB2.out.size _))).mono ?_; rintro e w3 ⟨rfl, hb⟩; have HB3 := Aside0.mk hb; clear hb))
      go_ret2
      exact ⟨by rw [HR.out]; rfl, (HB2.out.alloc HB2.out.size _).trans (HB3.out.mono (HB2.out.alloc HB2.out.size _).size)⟩
theorem cs_RV {W w1 : World} {b0 : Nat} {v : Value} {xs : List Int} (h : Kd.R (Kd.int .u8) 5 w1 W.heap.size (fun _ => True) v xs) (hle : b0 ≤ W.heap.size) : Kd.V (Kd.int .u8) 5 w1 b0 (fun k_ => b0 ≤ k_) v xs :=
  Kd.R_V (Kd.R_mono (Kd.R_bound h) (fun k hk => Nat.le_trans hle hk.2.1))
theorem way_at {w2 w3 : World} {C : Array Value} (hb : Below (w2.alloc (.cells C 40)).heap.size (w2.alloc (.cells C 40)) w3) : w3.heap[w2.heap.size]? = some (.cells C 40 (0, 0)) :=
  (hb.block _ (by simp)).trans (heap_alloc_new _ _)
set_option maxHeartbeats 4000000 in
theorem cs_Bytes (name s : ByteArray) (w : World) (hs : name.size ≤ 9223372036854775807) (hl : s.size < 1000000) (hT : cs_Tabs w) :
    Calls Tryd.prog 10 #[.string name, .string s] w fun e w' => ∃ v0_ : Value, e = .returned (.tuple #[v0_, .int .i64 (cs_bytv (cs_kind (cs_fold name)) s).2]) ∧ Kd.V (Kd.int .u8) 5 w' w.heap.size (fun k_ => (w.heap.size ≤ k_)) v0_ (cs_bytv (cs_kind (cs_fold name)) s).1 ∧ Below w.heap.size w w' := by
  have k4 := cs_kind4 (cs_fold name)
  have hF := fun w => cs_find name w hs
  generalize cs_kind (cs_fold name) = k at *
  obtain ⟨va, hva⟩ : ∃ va, Lib.validD s.data.toList = va := ⟨_, rfl⟩
  have HV : Aside0 (∀ w, cs_Tabs w → Calls Tryd.prog 17 #[.string s] w fun e w' => e = .returned (.bool va) ∧ Below w.heap.size w w') := ⟨fun w h => by have := cs_ValidString s w (by omega) h; rw [hva] at this; exact this⟩
  have HVA := Aside0.mk hva
  have HF := Aside0.mk hF
  have HT := Aside0.mk hT
  clear hF hT hva
  by_cases hk0 : k = 0
  · subst hk0
    have HR : Aside0 (cs_bytv 0 s = ([], 21)) := ⟨rfl⟩
    go_enter Tryd.func10, Tryd.ntmps10
    go_wp2_with (go_at_call 14; refine (HF.out _).mono ?_; rintro e w2 ⟨rfl, hb⟩; have HB2 := Aside0.mk hb; clear hb; simp only [cs_way, cs_cells, if_true, if_false, Nat.reduceEqDiff])
    go_ret2
    exact ⟨_, by rw [HR.out]; rfl, by rw [HR.out]; exact Kd.V_nil _ _ _ _ _, HB2.out.alloc HB2.out.size _⟩
  cases va with
  | false =>
    have HR : Aside0 (cs_bytv k s = ([], 21)) := ⟨by unfold cs_bytv; rw [if_neg hk0, if_pos HVA.out]⟩
    rcases k4 with rfl | rfl | rfl | rfl
    · exact absurd rfl hk0
    all_goals
      go_enter Tryd.func10, Tryd.ntmps10
      go_wp2_with (first | (go_at_call 14; refine (HF.out _).mono ?_; rintro e w2 ⟨rfl, hb⟩; have HB2 := Aside0.mk hb; clear hb; simp only [cs_way, cs_cells, if_true, if_false, Nat.reduceEqDiff]) | (go_at_call 17; refine (HV.out _ (HT.out.below (HB2.out.alloc HB2.out.size _))).mono ?_; rintro e w3 ⟨rfl, hb⟩; have HB3 := Aside0.mk hb; clear hb))
      go_ret2
      exact ⟨_, by rw [HR.out]; rfl, by rw [HR.out]; exact Kd.V_nil _ _ _ _ _, (HB2.out.alloc HB2.out.size _).trans (HB3.out.mono (HB2.out.alloc HB2.out.size _).size)⟩
  | true =>
    rcases k4 with rfl | rfl | rfl | rfl
    · exact absurd rfl hk0
    · obtain ⟨⟨X, ok⟩, hX⟩ : ∃ X, bytL 128 s (s.size + 1) 0 [] = X := ⟨_, rfl⟩
      have HR : Aside0 (cs_bytv 1 s = if ok = true then (X, 0) else ([], 21)) := ⟨by unfold cs_bytv; rw [if_neg hk0, if_neg (by rw [HVA.out]; decide), if_neg (by decide)]; simp only [if_true]; rw [hX]⟩
      have HX : Aside0 (∀ w : World, Calls Tryd.prog 21 #[.agg #[.int .i32 128], .string s] w fun e w' => ∃ v, e = .returned (.tuple #[v, .bool ok]) ∧ Kd.R (Kd.int .u8) 5 w' w.heap.size (fun _ => True) v X ∧ Below w.heap.size w w') := ⟨fun w => cs_bytes s 128 w hl X ok hX⟩
      clear hX
      go_enter Tryd.func10, Tryd.ntmps10
      cases ok
      all_goals
        go_wp2_with (first | (go_at_call 14; refine (HF.out _).mono ?_; rintro e w2 ⟨rfl, hb⟩; have HB2 := Aside0.mk hb; clear hb; simp only [cs_way, cs_cells, if_true, if_false, Nat.reduceEqDiff]) | (go_at_call 17; refine (HV.out _ (HT.out.below (HB2.out.alloc HB2.out.size _))).mono ?_; rintro e w3 ⟨rfl, hb⟩; have HB3 := Aside0.mk hb; have y0 := cell_of_row _ _ 0 _ _ _ (way_at HB3.out); have y2 := cell_of_row _ _ 2 _ _ _ (way_at HB3.out); simp only [List.getElem?_toArray, List.getElem?_cons_zero, List.getElem?_cons_succ] at y0 y2; clear hb) | (go_at_call 21; refine (HX.out _).mono ?_; rintro e w4 ⟨v, rfl, hv, hb⟩; have HB4 := Aside0.mk hb; have HV4 := Aside0.mk hv; clear hb hv))
        go_ret2
        first | exact ⟨_, by rw [HR.out]; rfl, by rw [HR.out]; exact Kd.V_nil _ _ _ _ _, ((HB2.out.alloc HB2.out.size _).trans (HB3.out.mono (HB2.out.alloc HB2.out.size _).size)).trans (HB4.out.mono ((HB2.out.alloc HB2.out.size _).trans (HB3.out.mono (HB2.out.alloc HB2.out.size _).size)).size)⟩ | exact ⟨_, by rw [HR.out]; rfl, by rw [HR.out]; exact cs_RV HV4.out ((HB2.out.alloc HB2.out.size _).trans (HB3.out.mono (HB2.out.alloc HB2.out.size _).size)).size, ((HB2.out.alloc HB2.out.size _).trans (HB3.out.mono (HB2.out.alloc HB2.out.size _).size)).trans (HB4.out.mono ((HB2.out.alloc HB2.out.size _).trans (HB3.out.mono (HB2.out.alloc HB2.out.size _).size)).size)⟩
    · obtain ⟨⟨X, ok⟩, hX⟩ : ∃ X, bytL 256 s (s.size + 1) 0 [] = X := ⟨_, rfl⟩
      have HR : Aside0 (cs_bytv 2 s = if ok = true then (X, 0) else ([], 21)) := ⟨by unfold cs_bytv; rw [if_neg hk0, if_neg (by rw [HVA.out]; decide), if_neg (by decide)]; simp only [show (2 : Nat) = 1 ↔ False from by decide, if_false]; rw [hX]⟩
      have HX : Aside0 (∀ w : World, Calls Tryd.prog 21 #[.agg #[.int .i32 256], .string s] w fun e w' => ∃ v, e = .returned (.tuple #[v, .bool ok]) ∧ Kd.R (Kd.int .u8) 5 w' w.heap.size (fun _ => True) v X ∧ Below w.heap.size w w') := ⟨fun w => cs_bytes s 256 w hl X ok hX⟩
      clear hX
      go_enter Tryd.func10, Tryd.ntmps10
      cases ok
      all_goals
        go_wp2_with (first | (go_at_call 14; refine (HF.out _).mono ?_; rintro e w2 ⟨rfl, hb⟩; have HB2 := Aside0.mk hb; clear hb; simp only [cs_way, cs_cells, if_true, if_false, Nat.reduceEqDiff]) | (go_at_call 17; refine (HV.out _ (HT.out.below (HB2.out.alloc HB2.out.size _))).mono ?_; rintro e w3 ⟨rfl, hb⟩; have HB3 := Aside0.mk hb; have y0 := cell_of_row _ _ 0 _ _ _ (way_at HB3.out); have y2 := cell_of_row _ _ 2 _ _ _ (way_at HB3.out); simp only [List.getElem?_toArray, List.getElem?_cons_zero, List.getElem?_cons_succ] at y0 y2; clear hb) | (go_at_call 21; refine (HX.out _).mono ?_; rintro e w4 ⟨v, rfl, hv, hb⟩; have HB4 := Aside0.mk hb; have HV4 := Aside0.mk hv; clear hb hv))
        go_ret2
        first | exact ⟨_, by rw [HR.out]; rfl, by rw [HR.out]; exact Kd.V_nil _ _ _ _ _, ((HB2.out.alloc HB2.out.size _).trans (HB3.out.mono (HB2.out.alloc HB2.out.size _).size)).trans (HB4.out.mono ((HB2.out.alloc HB2.out.size _).trans (HB3.out.mono (HB2.out.alloc HB2.out.size _).size)).size)⟩ | exact ⟨_, by rw [HR.out]; rfl, by rw [HR.out]; exact cs_RV HV4.out ((HB2.out.alloc HB2.out.size _).trans (HB3.out.mono (HB2.out.alloc HB2.out.size _).size)).size, ((HB2.out.alloc HB2.out.size _).trans (HB3.out.mono (HB2.out.alloc HB2.out.size _).size)).trans (HB4.out.mono ((HB2.out.alloc HB2.out.size _).trans (HB3.out.mono (HB2.out.alloc HB2.out.size _).size)).size)⟩
    · have HR : Aside0 (cs_bytv 3 s = (bytesOf s, 0)) := ⟨by unfold cs_bytv; rw [if_neg hk0, if_neg (by rw [HVA.out]; decide), if_pos rfl]⟩
      have HX : Aside0 (∀ w : World, Calls Tryd.prog 23 #[.agg #[.int .i32 0], .string s] w fun e w' => ∃ v, e = .returned (.tuple #[v, .bool true]) ∧ Kd.V (Kd.int .u8) 5 w' w.heap.size (fun k_ => (w.heap.size ≤ k_)) v (bytesOf s) ∧ Below w.heap.size w w') := ⟨fun w => charset_set_plain.calls 0 s (bytesOf s) true w (if_pos (by omega))⟩
      go_enter Tryd.func10, Tryd.ntmps10
      go_wp2_with (first | (go_at_call 14; refine (HF.out _).mono ?_; rintro e w2 ⟨rfl, hb⟩; have HB2 := Aside0.mk hb; clear hb; simp only [cs_way, cs_cells, if_true, if_false, Nat.reduceEqDiff]) | (go_at_call 17; refine (HV.out _ (HT.out.below (HB2.out.alloc HB2.out.size _))).mono ?_; rintro e w3 ⟨rfl, hb⟩; have HB3 := Aside0.mk hb; have y0 := cell_of_row _ _ 0 _ _ _ (way_at HB3.out); have y2 := cell_of_row _ _ 2 _ _ _ (way_at HB3.out); simp only [List.getElem?_toArray, List.getElem?_cons_zero, List.getElem?_cons_succ] at y0 y2; clear hb) | (go_at_call 23; refine (HX.out _).mono ?_; rintro e w4 ⟨v, rfl, hv, hb⟩; have HB4 := Aside0.mk hb; have HV4 := Aside0.mk hv; clear hb hv))
      go_ret2
      exact ⟨_, by rw [HR.out]; rfl, by rw [HR.out]; exact Kd.V_mono HV4.out (fun k_ h_ => Nat.le_trans ((HB2.out.alloc HB2.out.size _).trans (HB3.out.mono (HB2.out.alloc HB2.out.size _).size)).size h_), ((HB2.out.alloc HB2.out.size _).trans (HB3.out.mono (HB2.out.alloc HB2.out.size _).size)).trans (HB4.out.mono ((HB2.out.alloc HB2.out.size _).trans (HB3.out.mono (HB2.out.alloc HB2.out.size _).size)).size)⟩
end Go.Proofs.YtoihcdahloddkaaDoor.P
