-- Written by a program of this session (wip/tools/mk.sh) for this claim: it runs the kit's print with contracts of our own. Lean checks it.
import Derived.Test.YtbjbagocnnffaaaDoorPx0
import Derived.Test.YtbjbagocnnffaaaDoorWRepsOne
import Derived.Test.YtbjbagocnnffaaaDoorZStr
import Derived.Test.YtbjbagocnnffaaaDoorPx3
import Derived.Test.YtbjbagocnnffaaaDoorPx4
namespace Go.Proofs.YtbjbagocnnffaaaDoor.P
open Go.RowKit Go.Proofs.YtbjbagocnnffaaaDoorW.PrintWords Go.Proofs.YtbjbagocnnffaaaDoorW.PrintLast Go.Proofs.YtbjbagocnnffaaaDoorW.PrintMore
attribute [-simp] Int.tmod_tmod_of_dvd
attribute [local go_sem] max2_int min2_int max_two min_two max_three min_three max_four min_four   -- for this text's walks alone
set_option linter.unusedVariables false
set_option linter.unusedSimpArgs false

/-! ### section_reader_what: function 18 -/
theorem infoI : (Tryd.prog.info? 3).map (fun i => (i.zero, i.size, i.bytes)) = some (some (.int .i64 0), 1, 8) := by kernel_rfl
def sec_w6 : List ByteArray := [⟨#[]⟩, ⟨#[72, 69, 65, 68, 69, 82]⟩, ⟨#[72, 69, 65, 68, 69, 82, 46, 70, 73, 69, 76, 68, 83]⟩, ⟨#[72, 69, 65, 68, 69, 82, 46, 70, 73, 69, 76, 68, 83, 46, 78, 79, 84]⟩, ⟨#[84, 69, 88, 84]⟩, ⟨#[77, 73, 77, 69]⟩]
theorem sec_ix0 (w : World) : (Instr.index 66 (.agg #[.string (⟨#[]⟩ : ByteArray), .string (⟨#[72, 69, 65, 68, 69, 82]⟩ : ByteArray), .string (⟨#[72, 69, 65, 68, 69, 82, 46, 70, 73, 69, 76, 68, 83]⟩ : ByteArray), .string (⟨#[72, 69, 65, 68, 69, 82, 46, 70, 73, 69, 76, 68, 83, 46, 78, 79, 84]⟩ : ByteArray), .string (⟨#[84, 69, 88, 84]⟩ : ByteArray), .string (⟨#[77, 73, 77, 69]⟩ : ByteArray)]) (.int .i64 0)).run Tryd.prog w = .ok (.string (⟨#[]⟩ : ByteArray)) w := by kernel_rfl
theorem sec_ix1 (w : World) : (Instr.index 66 (.agg #[.string (⟨#[]⟩ : ByteArray), .string (⟨#[72, 69, 65, 68, 69, 82]⟩ : ByteArray), .string (⟨#[72, 69, 65, 68, 69, 82, 46, 70, 73, 69, 76, 68, 83]⟩ : ByteArray), .string (⟨#[72, 69, 65, 68, 69, 82, 46, 70, 73, 69, 76, 68, 83, 46, 78, 79, 84]⟩ : ByteArray), .string (⟨#[84, 69, 88, 84]⟩ : ByteArray), .string (⟨#[77, 73, 77, 69]⟩ : ByteArray)]) (.int .i64 1)).run Tryd.prog w = .ok (.string (⟨#[72, 69, 65, 68, 69, 82]⟩ : ByteArray)) w := by kernel_rfl
theorem sec_ix2 (w : World) : (Instr.index 66 (.agg #[.string (⟨#[]⟩ : ByteArray), .string (⟨#[72, 69, 65, 68, 69, 82]⟩ : ByteArray), .string (⟨#[72, 69, 65, 68, 69, 82, 46, 70, 73, 69, 76, 68, 83]⟩ : ByteArray), .string (⟨#[72, 69, 65, 68, 69, 82, 46, 70, 73, 69, 76, 68, 83, 46, 78, 79, 84]⟩ : ByteArray), .string (⟨#[84, 69, 88, 84]⟩ : ByteArray), .string (⟨#[77, 73, 77, 69]⟩ : ByteArray)]) (.int .i64 2)).run Tryd.prog w = .ok (.string (⟨#[72, 69, 65, 68, 69, 82, 46, 70, 73, 69, 76, 68, 83]⟩ : ByteArray)) w := by kernel_rfl
theorem sec_ix3 (w : World) : (Instr.index 66 (.agg #[.string (⟨#[]⟩ : ByteArray), .string (⟨#[72, 69, 65, 68, 69, 82]⟩ : ByteArray), .string (⟨#[72, 69, 65, 68, 69, 82, 46, 70, 73, 69, 76, 68, 83]⟩ : ByteArray), .string (⟨#[72, 69, 65, 68, 69, 82, 46, 70, 73, 69, 76, 68, 83, 46, 78, 79, 84]⟩ : ByteArray), .string (⟨#[84, 69, 88, 84]⟩ : ByteArray), .string (⟨#[77, 73, 77, 69]⟩ : ByteArray)]) (.int .i64 3)).run Tryd.prog w = .ok (.string (⟨#[72, 69, 65, 68, 69, 82, 46, 70, 73, 69, 76, 68, 83, 46, 78, 79, 84]⟩ : ByteArray)) w := by kernel_rfl
theorem sec_ix4 (w : World) : (Instr.index 66 (.agg #[.string (⟨#[]⟩ : ByteArray), .string (⟨#[72, 69, 65, 68, 69, 82]⟩ : ByteArray), .string (⟨#[72, 69, 65, 68, 69, 82, 46, 70, 73, 69, 76, 68, 83]⟩ : ByteArray), .string (⟨#[72, 69, 65, 68, 69, 82, 46, 70, 73, 69, 76, 68, 83, 46, 78, 79, 84]⟩ : ByteArray), .string (⟨#[84, 69, 88, 84]⟩ : ByteArray), .string (⟨#[77, 73, 77, 69]⟩ : ByteArray)]) (.int .i64 4)).run Tryd.prog w = .ok (.string (⟨#[84, 69, 88, 84]⟩ : ByteArray)) w := by kernel_rfl
theorem sec_ix5 (w : World) : (Instr.index 66 (.agg #[.string (⟨#[]⟩ : ByteArray), .string (⟨#[72, 69, 65, 68, 69, 82]⟩ : ByteArray), .string (⟨#[72, 69, 65, 68, 69, 82, 46, 70, 73, 69, 76, 68, 83]⟩ : ByteArray), .string (⟨#[72, 69, 65, 68, 69, 82, 46, 70, 73, 69, 76, 68, 83, 46, 78, 79, 84]⟩ : ByteArray), .string (⟨#[84, 69, 88, 84]⟩ : ByteArray), .string (⟨#[77, 73, 77, 69]⟩ : ByteArray)]) (.int .i64 5)).run Tryd.prog w = .ok (.string (⟨#[77, 73, 77, 69]⟩ : ByteArray)) w := by kernel_rfl
def sec_word (j : Int) : ByteArray := sec_w6.getD j.toNat ⟨#[]⟩
/-- what the listed variable says of a world -/
def sec_Words (w : World) : Prop := ∀ j : Nat, j < 6 → w.cell? ⟨0, j, none⟩ = some (.string (sec_word (j : Int)))
theorem sec_Words.below {w w1 : World} (h : sec_Words w) (hb : Below w.heap.size w w1) : sec_Words w1 := fun j hj => (hb.cell (World.block_lt_of_cell? w _ (h j hj))).trans (h j hj)
/-- the word that is the same: from a place on, so many left -/
def sec_find (word : ByteArray) : Nat → Nat → Option (Option Nat)
  | 0, _ => some none
  | d + 1, x => if x = 0 then sec_find word d (x + 1) else (chars_Same.f (sec_word (x : Int)) word).bind fun t => if t = true then some (some x) else sec_find word d (x + 1)
def sec_fin (p : List Int) (s : ByteArray) (b : Bool) : Option Nat → List Int × Int × ByteArray × Bool
  | some x => (p, (x : Int), s, b)
  | none => (p, 0, s, true)
def sec_tail (s : ByteArray) (b : Bool) (p : List Int) : Option (List Int × Int × ByteArray × Bool) :=
  (section_reader_run.f s b 39).bind fun t => if t.1.toList = ([] : List UInt8) then some (p, 0, t.2.1, if 0 < p.length then true else t.2.2) else (sec_find t.1 6 0).bind fun o => some (sec_fin p t.2.1 t.2.2 o)
def sec_what (K : Nat) : Nat → ByteArray → Bool → List Int → Option (List Int × Int × ByteArray × Bool)
  | 0, _, _, _ => none
  | d + 1, s, b, p => if (0 < s.size ∧ rdr_is 37 (bt s 0) = true) ∧ b = false then
      (section_reader_number.f K s b).bind fun t => if p.length < 1000000 then (section_reader_is.f t.2.1 t.2.2 (⟨#[46]⟩ : ByteArray)).bind fun u => if u.1 = true then sec_what K d u.2.1 u.2.2 (p ++ [t.1]) else some (p ++ [t.1], 0, u.2.1, u.2.2) else none
    else sec_tail s b p
/-- what stands in memory while the path is read -/
structure WhI (w0 w W : World) (g h : Nat) (s : ByteArray) (b : Bool) (v : Value) (p : List Int) (q : Int) : Prop where
  rd : IsS50 w0 W g s b
  sp : W.heap[h]? = some (.cells #[v, .int .i64 q, .slice none 0 0, .bool false, .int .i64 0, .int .i64 0] 26 (0, 0))
  row : Kd.R (Kd.int .i64) 3 W w.heap.size (fun k => k ≠ g ∧ k ≠ h) v p
  keep : Kept w W (fun k => k = g ∨ k = h)
  bel : Below w0.heap.size w0 W
section
variable {w0 w W W1 : World} {g h : Nat} {s s1 : ByteArray} {b b1 : Bool} {v : Value} {p : List Int} {q : Int}
theorem WhI.ne (hI : WhI w0 w W g h s b v p q) : h ≠ g := fun e => by
  have h1 := hI.rd.1
  rw [← e, hI.sp] at h1
  simp at h1
theorem WhI.next (hI : WhI w0 w W g h s b v p q) (hi : IsS50 w0 W1 g s1 b1) (hb : Below w0.heap.size w0 W1) (hk : KeepBut W W1 g none) : WhI w0 w W1 g h s1 b1 v p q :=
  ⟨hi, hk.blk hI.sp hI.ne (by simp), Kd.R_keep hI.row hk (fun k hk => hk.1), hI.keep.of_keep hk (.inl (.inl rfl)), hb⟩
theorem WhI.below (hI : WhI w0 w W g h s b v p q) (hB : Below W.heap.size W W1) : WhI w0 w W1 g h s b v p q :=
  ⟨hI.rd.below hB, blk_below hI.sp hB, Kd.R_below hI.row hB, hI.keep.below hB, hI.bel.trans (hB.mono hI.bel.size)⟩
theorem WhI.drew (hI : WhI w0 w W g h s b v p q) : WhI w0 w W.drew g h s b v p q := ⟨hI.rd, hI.sp, Kd.R_drew hI.row, hI.keep, below_drew1 hI.bel⟩
theorem WhI.put (hI : WhI w0 w W g h s b v p q) (q1 : Int) (hh : w0.heap.size ≤ h) : WhI w0 w (W.setCell ⟨h, 1, none⟩ (.int .i64 q1)) g h s b v p q1 :=
  ⟨hI.rd.far (Ne.symm hI.ne) _, blk_put hI.sp 1 _ rfl, Kd.R_far hI.row (p := ⟨h, 1, none⟩) (fun k hk => hk.2) _, hI.keep.setCell (p := ⟨h, 1, none⟩) (.inl (.inr rfl)) _, hI.bel.setCell (p := ⟨h, 1, none⟩) hh _⟩
theorem WhI.bad (hI : WhI w0 w W g h s b v p q) (b1 : Bool) : WhI w0 w (W.setCell ⟨g, 1, none⟩ (.bool b1)) g h s b1 v p q :=
  ⟨hI.rd.set_1 b1, blk_far hI.sp (p := ⟨g, 1, none⟩) hI.ne _, Kd.R_far hI.row (p := ⟨g, 1, none⟩) (fun k hk => hk.1) _, hI.keep.setCell (p := ⟨g, 1, none⟩) (.inl (.inl rfl)) _, hI.bel.setCell (p := ⟨g, 1, none⟩) hI.rd.2 _⟩
theorem WhI.grow {v1 : Value} {p1 : List Int} (hI : WhI w0 w W g h s b v p q) (hR : Kd.R (Kd.int .i64) 3 W1 w.heap.size (fun k => k ≠ g ∧ k ≠ h) v1 p1) (hB : Below w.heap.size W W1) (h0 : w0.heap.size ≤ w.heap.size) (hG : W.grownBy W1 v.ownBlock) (hh : w0.heap.size ≤ h) :
    WhI w0 w (W1.setCell ⟨h, 0, none⟩ v1) g h s b v1 p1 q ∧ W1.heap[h]? = some (.cells #[v, .int .i64 q, .slice none 0 0, .bool false, .int .i64 0, .int .i64 0] 26 (0, 0)) ∧ True := by
  have n1 : some g ≠ v.ownBlock := fun e => (hI.row.1 g e.symm).1 rfl
  have n2 : some h ≠ v.ownBlock := fun e => (hI.row.1 h e.symm).2 rfl
  have b1 := blk_grown hI.sp hG n2
  refine ⟨⟨(hI.rd.grown hG n1).far (Ne.symm hI.ne) _, blk_put b1 0 _ rfl, Kd.R_far hR (p := ⟨h, 0, none⟩) (fun k hk => hk.2) _, ?_, (hI.bel.trans (hB.mono h0)).setCell (p := ⟨h, 0, none⟩) hh _⟩, b1, trivial⟩
  exact (Kept.of_grown hG hI.keep (fun k e => .inr (Kd.R_base hI.row k e))).setCell (p := ⟨h, 0, none⟩) (.inl (.inr rfl)) _
end
theorem sec_at {w W : World} (h : sec_Words w) (hb : Below w.heap.size w W) {j : Int} (h0 : 0 ≤ j) (h6 : j < 6) : W.cell? ⟨0, j.toNat, none⟩ = some (.string (sec_word j)) := by
  have h1 := h.below hb j.toNat (by omega)
  rwa [Int.toNat_of_nonneg h0] at h1
theorem sec_what_mono (k : Nat) : ∀ d s b p, LeO (sec_what k d s b p) (sec_what (k + 1) (d + 1) s b p)
  | 0, _, _, _ => LeO.none _
  | d + 1, s, b, p => by
    unfold sec_what
    exact LeO.ite (LeO.bind (section_reader_number.mono _ _ _) (fun _ => LeO.ite (LeO.bind (LeO.refl _) (fun _ => LeO.ite (sec_what_mono k d _ _ _) (LeO.refl _))) (LeO.none _))) (LeO.refl _)
set_option maxHeartbeats 8000000 in
set_option maxRecDepth 100000 in
theorem sec_what_walk (kf g h : Nat) (s : ByteArray) (b : Bool) (r1 : List Int) (r2 : Int) (r3 : ByteArray) (r4 : Bool) (w0 w : World) (hI : WhI w0 w w g h s b (.slice none 0 0) [] 0) (h0 : w0.heap.size ≤ h) (hL : sec_Words w0) (hf : sec_what kf kf s b [] = some (r1, r2, r3, r4)) :
    Calls Tryd.prog 18 #[.pointer (some ⟨g, 0, none⟩), .pointer (some ⟨h, 0, none⟩)] w fun e w' => e = .returned (.tuple #[]) ∧ ∃ v, WhI w0 w w' g h r3 r4 v r1 r2 := by
  have H := Aside0.mk hf
  have HI0 := Aside0.mk hI
  have HL := Aside0.mk hL
  have HH := Aside0.mk h0
  have HW := Aside0.mk hI.bel.size
  clear hf hI hL h0
  go_enter Tryd.func18, Tryd.ntmps18
  go_wp2_with fail
  go_loopg [] kf (fun gk w' => ∃ (s1 : ByteArray) (b1 : Bool) (v : Value) (p : List Int), Aside0 (sec_what kf gk s1 b1 p = some (r1, r2, r3, r4)) ∧ Aside0 (WhI w0 w w' g h s1 b1 v p 0))
  case atStart => exact ⟨_, _, _, _, H, HI0⟩
  case round =>
    clear H HI0
    obtain ⟨s1, b1, v, p, HA, HI⟩ := hrel
    cases gk with
    | zero => exact absurd HA.out (by simp [sec_what])
    | succ d =>
    have H := HA.out
    clear HA
    simp only [sec_what] at H
    have z0 := cellS50_0 HI.out.rd.1
    have z1 := cellS50_1 HI.out.rd.1
    by_cases c : (0 < s1.size ∧ rdr_is 37 (bt s1 0) = true) ∧ b1 = false
    · rw [if_pos c] at H
      obtain ⟨⟨ha, hb⟩, rfl⟩ := c
      obtain ⟨⟨n, s2, b2⟩, A1, H⟩ := Option.bind_eq_some_iff.mp H
      simp only at H
      by_cases hp : p.length < 1000000
      case neg => rw [if_neg hp] at H; exact absurd H (by simp)
      rw [if_pos hp] at H
      obtain ⟨⟨is, s3, b3⟩, A2, H⟩ := Option.bind_eq_some_iff.mp H
      simp only at H
      have HDG := Aside0.mk (rdr_digit (bt s1 0) (rdr_byte s1 0 (by omega) (by omega)))
      rw [hb] at HDG
      have HN := Aside0.mk A1
      have HP := Aside0.mk hp
      have HS := Aside0.mk A2
      have HX := Aside0.mk H
      have sb0 : decide (0 < (s1.size : Int)) = true := decide_eq_true (by omega)
      have sb1 : decide (0 < s1.size) = true := decide_eq_true ha
      have p4 : (0 < (s1.size : Int)) = True := eq_true (by omega)
      have q4 : (0 < s1.size) = True := eq_true ha
      have hx : ∀ h_ : 0 < s1.size, ((s1[0]'h_).toNat : Int) = bt s1 0 := fun h_ => bt_at s1 0 h_
      clear hb A1 A2 hp ha H
      go_wp2_with (go_at_call 37; refine (HDG.out _).mono ?_; rintro e w2 ⟨rfl, hB2⟩; have HD := Aside0.mk ((HI.out.below hB2).drew); have k0 := cellS50_0 (HI.out.below hB2).rd.1; have k1 := cellS50_1 (HI.out.below hB2).rd.1; clear hB2)
      have hc1 := blk_cell HD.out.sp 0
      simp only [List.getElem?_toArray, List.getElem?_cons_zero] at hc1
      refine start_ (n := 12) (S := fun w' => w'.cell? ⟨h, 0, none⟩ = some v) (ds := [8, 11]) #[false, false, false, false, false, false, false, false, false, false, false, false] (by kernel_rfl) rfl rfl (hc1) (fun hHeld => ?_)
      refine pure_ (i := 0) (N := some 28) (v := ?_) (a' := ?_) #[true, false, false, false, false, false, false, false, false, false, false, false] rfl rfl (by kernel_rfl) (fun _ _ _ h => h) (Or.inl ⟨by rfl, ?_⟩) ?_ ?_
      rotate_left
      · intro w'
        go_simp
        with_reducible rfl
      rotate_left
      · simp only [Act.put, List.setIfInBounds_toArray, List.set_cons_zero, List.set_cons_succ, i64_w, i32_w]
        rfl
      refine pure_ (i := 1) (N := some 29) (v := ?_) (a' := ?_) #[true, true, false, false, false, false, false, false, false, false, false, false] rfl rfl (by kernel_rfl) (fun _ _ _ h => h) (Or.inl ⟨by rfl, ?_⟩) ?_ ?_
      rotate_left
      · intro w'
        go_simp
        with_reducible rfl
      rotate_left
      · simp only [Act.put, List.setIfInBounds_toArray, List.set_cons_zero, List.set_cons_succ, i64_w, i32_w]
        rfl
      refine pure_ (i := 2) (N := some 30) (v := ?_) (a' := ?_) #[true, true, true, false, false, false, false, false, false, false, false, false] rfl rfl (by kernel_rfl) (fun _ _ _ h => h) (Or.inl ⟨by rfl, ?_⟩) ?_ ?_
      rotate_left
      · intro w'
        go_simp
        with_reducible rfl
      rotate_left
      · simp only [Act.put, List.setIfInBounds_toArray, List.set_cons_zero, List.set_cons_succ, i64_w, i32_w]
        rfl
      refine pure_ (i := 3) (N := some 31) (v := ?_) (a' := ?_) #[true, true, true, true, false, false, false, false, false, false, false, false] rfl rfl (by kernel_rfl) (fun _ _ _ h => h) (Or.inl ⟨by rfl, ?_⟩) ?_ ?_
      rotate_left
      · intro w'
        go_simp
        with_reducible rfl
      rotate_left
      · simp only [Act.put, List.setIfInBounds_toArray, List.set_cons_zero, List.set_cons_succ, i64_w, i32_w]
        rfl
      refine pure_ (i := 5) (N := some 33) (v := ?_) (a' := ?_) #[true, true, true, true, false, true, false, false, false, false, false, false] rfl rfl (by kernel_rfl) (fun _ _ _ h => h) (Or.inl ⟨by rfl, ?_⟩) ?_ ?_
      rotate_left
      · intro w'
        go_simp
        with_reducible rfl
      rotate_left
      · simp only [Act.put, List.setIfInBounds_toArray, List.set_cons_zero, List.set_cons_succ, i64_w, i32_w]
        rfl
      refine take_ (i := 4) (N := some 32) (v := ?_) (a' := ?_) #[true, true, true, true, true, true, false, false, false, false, false, false] rfl rfl (by kernel_rfl) (fun _ _ _ h => h) (Or.inl ⟨by rfl, ?_⟩) hHeld ?_ ?_
      rotate_left
      · intro w' s0
        go_simp
        with_reducible rfl
      rotate_left
      · simp only [Act.put, List.setIfInBounds_toArray, List.set_cons_zero, List.set_cons_succ, i64_w, i32_w]
        rfl
      refine one_ (i := 6) (N := some 34) #[true, true, true, true, true, true, true, false, false, false, false, false] rfl rfl (by kernel_rfl) (by decide) (fun K hK => ?_)
      refine goes_ Tryd.func22 (by kernel_rfl) rfl #[.pointer (some ⟨g, 0, none⟩)] (by rfl) rfl rfl (by simp only [List.map_toArray, List.map_cons, List.map_nil]; rfl) ?_
      with_reducible refine (section_reader_number.calls kf g s1 false n s2 b2 w0 _ HD.out.rd HD.out.bel HN.out).mono ?_
      rintro e w3 ⟨rfl, hi3, hb3, hk3⟩
      refine ⟨_, rfl, ?_⟩
      have HJ := Aside0.mk (HD.out.next hi3 hb3 hk3)
      have hc3 := blk_cell HJ.out.sp 0
      simp only [List.getElem?_toArray, List.getElem?_cons_zero] at hc3
      clear hi3 hb3 hk3 HD
      refine hK.out _ _ (hc3) (fun hHeld => ?_)
      clear hK K
      refine norm_ (a' := ?_) ?_ ?_
      rotate_left
      · show Act.put _ (some 34) _ = _
        simp only [Act.put, List.setIfInBounds_toArray, List.set_cons_zero, List.set_cons_succ, i64_w, i32_w]
        rfl
      refine one_ (i := 7) (N := some 35) #[true, true, true, true, true, true, true, true, false, false, false, false] rfl rfl (by kernel_rfl) (by decide) (fun K hK => ?_)
      clear hc3
      refine value_ (w1 := ?_) (v := ?_) (by rfl) rfl ?_ ?_
      rotate_left 2
      · go_simp
        constructor
        · rfl
        · rfl
      have hc4 := blk_cell (blk_alloc HJ.out.sp (.cells #[.int .i64 n] 3)) 0
      simp only [List.getElem?_toArray, List.getElem?_cons_zero] at hc4
      refine hK.out _ _ (hc4) (fun hHeld => ?_)
      clear hK K
      refine norm_ (a' := ?_) ?_ ?_
      rotate_left
      · show Act.put _ (some 35) _ = _
        simp only [Act.put, List.setIfInBounds_toArray, List.set_cons_zero, List.set_cons_succ, i64_w, i32_w]
        rfl
      refine last_ (i := 8) (N := some 36) #[true, true, true, true, true, true, true, true, true, false, false, false] rfl rfl (by kernel_rfl) (by decide) (fun K hK => ?_)
      clear hc4
      refine Kd.R_append_step (Kd.int .i64) (w0 := _) w.heap.size (by rfl) (.tmp 32) (.tmp 35) 23 3 (.int .i64 0) 8 rfl Tryd.underlying23 infoI rfl (by decide) (by decide) v p n [.int .i64 n] (fun k => k ≠ g ∧ k ≠ h) (fun _ => False) rfl rfl rfl (fun _ hk => hk.elim) ?_ HJ.out.row (Below.refl _ _) HJ.out.keep.1 (by have := HP.out; omega) ?_
      · exact fun k hk => ⟨fun e => absurd (blk_lt HJ.out.rd.1) (by omega), fun e => absurd (blk_lt HJ.out.sp) (by omega)⟩
      intro v1 w4 hR4 hB4 hG4 hO4
      obtain ⟨A1, c1, rfl⟩ := Kd.R_slice hR4
      obtain ⟨P, hP⟩ : ∃ P, P = p ++ [n] := ⟨_, rfl⟩
      rw [← hP] at hR4 ⊢
      have HA := Aside0.mk (HJ.out.grow hR4 hB4 HW.out hG4 HH.out)
      have hc5 := blk_cell HA.out.2.1 0
      have hf5 := blk_frozen HA.out.2.1 0
      simp only [List.getElem?_toArray, List.getElem?_cons_zero] at hc5
      have HPE := Aside0.mk hP
      clear hR4 hB4 hG4 hO4 hP HJ
      refine hK.out _ _ ?_
      clear hK K
      refine norm_ (a' := ?_) ?_ ?_
      rotate_left
      · show Act.put _ (some 36) _ = _
        simp only [Act.put, List.setIfInBounds_toArray, List.set_cons_zero, List.set_cons_succ, i64_w, i32_w]
        rfl
      refine pure_ (i := 9) (N := some 37) (v := ?_) (a' := ?_) #[true, true, true, true, true, true, true, true, true, true, false, false] rfl rfl (by kernel_rfl) (fun _ _ _ h => h) (Or.inl ⟨by rfl, ?_⟩) ?_ ?_
      rotate_left
      · intro w'
        go_simp
        with_reducible rfl
      rotate_left
      · simp only [Act.put, List.setIfInBounds_toArray, List.set_cons_zero, List.set_cons_succ, i64_w, i32_w]
        rfl
      refine pure_ (i := 10) (N := some 38) (v := ?_) (a' := ?_) #[true, true, true, true, true, true, true, true, true, true, true, false] rfl rfl (by kernel_rfl) (fun _ _ _ h => h) (Or.inl ⟨by rfl, ?_⟩) ?_ ?_
      rotate_left
      · intro w'
        go_simp
        with_reducible rfl
      rotate_left
      · simp only [Act.put, List.setIfInBounds_toArray, List.set_cons_zero, List.set_cons_succ, i64_w, i32_w]
        rfl
      refine last_ (i := 11) (N := none) #[true, true, true, true, true, true, true, true, true, true, true, true] rfl rfl (by kernel_rfl) (by decide) (fun K hK => ?_)
      refine skip_ (w1 := ?_) (by rfl) rfl ?_ ?_
      rotate_left
      · go_simp
        rfl
      refine hK.out _ _ ?_
      clear hK K
      refine done_ (by kernel_rfl) ?_
      have HB5 := Aside0.mk HA.out.1
      clear HA hc5 hf5 hHeld k0 k1 z0 z1 HDG HN hc1
      cases is with
      | true =>
        have HX2 : Aside0 (sec_what kf d s3 b3 P = some (r1, r2, r3, r4)) := ⟨by have := HX.out; rw [if_pos rfl] at this; rw [HPE.out]; exact this⟩
        clear HX HPE
        go_wp2_with (go_at_call 21; refine (section_reader_is.calls g s2 b2 (⟨#[46]⟩ : ByteArray) true s3 b3 w0 _ HB5.out.rd HB5.out.bel HS.out).mono ?_; rintro e w6 ⟨rfl, hi6, hb6, hk6⟩; have HI6 := Aside0.mk (HB5.out.next hi6 hb6 hk6); clear hi6 hb6 hk6)
        go_roundg d
        case measure => omega
        case rel => exact ⟨_, _, _, _, HX2, HI6⟩
      | false =>
        have HX2 : Aside0 ((P, (0 : Int), s3, b3) = (r1, r2, r3, r4)) := ⟨by have := HX.out; rw [if_neg (by decide)] at this; rw [HPE.out]; exact Option.some.inj this⟩
        clear HX HPE
        go_wp2_with (go_at_call 21; refine (section_reader_is.calls g s2 b2 (⟨#[46]⟩ : ByteArray) false s3 b3 w0 _ HB5.out.rd HB5.out.bel HS.out).mono ?_; rintro e w6 ⟨rfl, hi6, hb6, hk6⟩; have HI6 := Aside0.mk (HB5.out.next hi6 hb6 hk6); clear hi6 hb6 hk6)
        have E := HX2.out
        simp only [Prod.mk.injEq] at E
        obtain ⟨rfl, rfl, rfl, rfl⟩ := E
        exact bodyPost_ret (v := .tuple #[]) (by first | rfl | simp [results, Tryd.results18, go_sem]) rfl ⟨rfl, _, HI6.out⟩
    · rw [if_neg c] at H
      have c' : s1.size = 0 ∨ (0 < s1.size ∧ rdr_is 37 (bt s1 0) = false) ∨ (0 < s1.size ∧ rdr_is 37 (bt s1 0) = true ∧ b1 = true) := by
        by_cases h1 : 0 < s1.size
        · by_cases h2 : rdr_is 37 (bt s1 0) = true
          · right; right; refine ⟨h1, h2, ?_⟩; cases b1 with | true => rfl | false => exact absurd ⟨⟨h1, h2⟩, rfl⟩ c
          · right; left; exact ⟨h1, by simpa using h2⟩
        · left; omega
      clear c
      unfold sec_tail at H
      obtain ⟨⟨word, s3, b3⟩, A6, H⟩ := Option.bind_eq_some_iff.mp H
      simp only at H
      have HR := Aside0.mk A6
      have HX := Aside0.mk H
      clear A6 H
      obtain ⟨Ap, cp, rfl⟩ := Kd.R_slice HI.out.row
      have HDG : Aside0 (0 < s1.size → ∀ w, Calls Tryd.prog 37 #[.int .u8 (bt s1 0)] w fun e w' => e = .returned (.bool (rdr_is 37 (bt s1 0))) ∧ Below w.heap.size w w') := ⟨fun h1 => rdr_digit (bt s1 0) (rdr_byte s1 0 (by omega) (by omega))⟩
      rcases c' with c1 | ⟨c1, c2⟩ | ⟨c1, c2, rfl⟩
      all_goals
        have hx : ∀ h_ : 0 < s1.size, ((s1[0]'h_).toNat : Int) = bt s1 0 := fun h_ => bt_at s1 0 h_
        first
        | (have sb0 : decide (0 < (s1.size : Int)) = true := decide_eq_true (by omega)
           have sb1 : decide (0 < s1.size) = true := decide_eq_true c1
           have q4 : (0 < s1.size) = True := eq_true c1
           have HE := HDG.out c1
           rw [c2] at HE
           have HDH := Aside0.mk HE
           clear HE c2)
        | (have sb0 : decide (0 < (s1.size : Int)) = false := decide_eq_false (by omega)
           have sb1 : decide (0 < s1.size) = false := decide_eq_false (by omega)
           have q4 : (0 < s1.size) = False := eq_false (by omega)
           have HDH := HDG)
        clear c1 HDG
        go_upto_region 3 with (go_at_call 37; refine (HDH.out _).mono ?_; rintro e w2 ⟨rfl, hB2⟩; have HI2 := Aside0.mk (HI.out.below hB2); have d0 := cellS50_0 HI2.out.rd.1; have d1 := cellS50_1 HI2.out.rd.1; clear HI hB2; have HI := HI2; clear HI2)
        by_cases hw : word.toList = ([] : List UInt8)
        · have wb0 : (word.toList == ([] : List UInt8)) = true := beq_iff_eq.mpr hw
          have wb1 : (word.toList != ([] : List UInt8)) = false := bne_eq_false_iff_eq.mpr hw
          have HX2 : Aside0 ((p, (0 : Int), s3, if 0 < p.length then true else b3) = (r1, r2, r3, r4)) := ⟨by have h2 := HX.out; rw [if_pos hw] at h2; exact Option.some.inj h2⟩
          clear hw HX
          by_cases hp : 0 < p.length
          all_goals
            have E := HX2.out
            first | rw [if_pos hp] at E | rw [if_neg hp] at E
            simp only [Prod.mk.injEq] at E
            obtain ⟨rfl, rfl, rfl, rfl⟩ := E
            first
            | (have pb1 : decide (0 < p.length) = true := decide_eq_true hp
               have pb2 : decide (0 < (p.length : Int)) = true := decide_eq_true (by omega))
            | (have pb1 : decide (0 < p.length) = false := decide_eq_false hp
               have pb2 : decide (0 < (p.length : Int)) = false := decide_eq_false (by omega))
            clear hp HX2
            go_wp2_with (go_at_call 38; refine (section_reader_run.calls g s1 _ 39 word s3 b3 w0 _ HI.out.rd HI.out.bel HR.out).mono ?_; rintro e w3 ⟨rfl, hi3, hb3, hk3⟩; have HI4 := Aside0.mk (HI.out.next hi3 hb3 hk3); have e0 := blk_cell HI4.out.sp 0; simp only [List.getElem?_toArray, List.getElem?_cons_zero] at e0; have e1 := cellS50_1 HI4.out.rd.1; have e2 := blk_frozen HI4.out.rd.1 1; clear hi3 hb3 hk3)
            exact bodyPost_ret (v := .tuple #[]) (by first | rfl | simp [results, Tryd.results18, go_sem]) rfl ⟨rfl, _, HI4.out.bad _⟩
        · have wb0 : (word.toList == ([] : List UInt8)) = false := beq_eq_false_iff_ne.mpr hw
          have wb1 : (word.toList != ([] : List UInt8)) = true := bne_iff_ne.mpr hw
          have HX2 : Aside0 (((sec_find word 6 0).bind fun o => some (sec_fin p s3 b3 o)) = some (r1, r2, r3, r4)) := ⟨by have h2 := HX.out; rwa [if_neg hw] at h2⟩
          clear hw HX
          go_wp2_with (go_at_call 38; refine (section_reader_run.calls g s1 _ 39 word s3 b3 w0 _ HI.out.rd HI.out.bel HR.out).mono ?_; rintro e w3 ⟨rfl, hi3, hb3, hk3⟩; have HI4 := Aside0.mk (HI.out.next hi3 hb3 hk3); have L := sec_Words.below HL.out HI4.out.bel; have l0 : w3.cell? ⟨0, 0, none⟩ = some (.string (⟨#[]⟩ : ByteArray)) := L 0 (by decide); have l1 : w3.cell? ⟨0, 1, none⟩ = some (.string (⟨#[72, 69, 65, 68, 69, 82]⟩ : ByteArray)) := L 1 (by decide); have l2 : w3.cell? ⟨0, 2, none⟩ = some (.string (⟨#[72, 69, 65, 68, 69, 82, 46, 70, 73, 69, 76, 68, 83]⟩ : ByteArray)) := L 2 (by decide); have l3 : w3.cell? ⟨0, 3, none⟩ = some (.string (⟨#[72, 69, 65, 68, 69, 82, 46, 70, 73, 69, 76, 68, 83, 46, 78, 79, 84]⟩ : ByteArray)) := L 3 (by decide); have l4 : w3.cell? ⟨0, 4, none⟩ = some (.string (⟨#[84, 69, 88, 84]⟩ : ByteArray)) := L 4 (by decide); have l5 : w3.cell? ⟨0, 5, none⟩ = some (.string (⟨#[77, 73, 77, 69]⟩ : ByteArray)) := L 5 (by decide); clear hi3 hb3 hk3 L)
          go_loopw [62] (fun v62 w' => ∃ x : Int, v62 = .int .i64 x ∧ Aside0 (0 ≤ x ∧ x ≤ 6) ∧ Aside0 (((sec_find word (6 - x.toNat) x.toNat).bind fun o => some (sec_fin p s3 b3 o)) = some (r1, r2, r3, r4)) ∧ Aside0 (WhI w0 w w' g h s3 b3 (.slice Ap p.length cp) p 0)) (fun v62 _ => 6 - (intOf v62).toNat)
          case atStart => exact ⟨0, rfl, ⟨by decide⟩, HX2, HI4⟩
          case round =>
            clear HX2 HI4
            obtain ⟨x, rfl, hx6, HX, HIr⟩ := hrel
            have hx7 : x = 0 ∨ x = 1 ∨ x = 2 ∨ x = 3 ∨ x = 4 ∨ x = 5 ∨ x = 6 := by have := hx6.out; omega
            clear hx6
            rcases hx7 with rfl | rfl | rfl | rfl | rfl | rfl | rfl
            · have A5 : Aside0 (((sec_find word 5 1).bind fun o => some (sec_fin p s3 b3 o)) = some (r1, r2, r3, r4)) := ⟨by exact HX.out⟩
              clear HX
              have xk := sec_ix0
              go_wp2_with fail
              go_roundw
              case rel => exact ⟨1, rfl, ⟨by decide⟩, A5, HIr⟩
              case measure => decide
            · have H := HX.out
              have H : ((chars_Same.f (⟨#[72, 69, 65, 68, 69, 82]⟩ : ByteArray) word).bind fun t => if t = true then some (some 1) else sec_find word 4 2).bind (fun o => some (sec_fin p s3 b3 o)) = some (r1, r2, r3, r4) := H
              obtain ⟨o, A1, H⟩ := Option.bind_eq_some_iff.mp H
              obtain ⟨t, A2, A1⟩ := Option.bind_eq_some_iff.mp A1
              have A3 : chars_Same.f (⟨#[72, 69, 65, 68, 69, 82]⟩ : ByteArray) word = some t := A2
              have A4 := Aside0.mk A3
              clear A2 A3
              cases t with
              | true =>
                rw [if_pos rfl] at A1
                obtain rfl := Option.some.inj A1
                have A5 := Aside0.mk H
                clear A1 H HX
                have xk := sec_ix1
                go_wp2_with (go_at_call 40; refine (chars_Same.calls _ _ true _ A4.out).mono ?_; rintro e w5 ⟨rfl, hB5⟩; have HI5 := Aside0.mk (HIr.out.below hB5); have k1 := blk_cell HI5.out.sp 1; have f1 := blk_frozen HI5.out.sp 1; clear hB5)
                have F := HI5.out.put 1 HH.out
                have E := A5.out
                simp only [sec_fin, Option.some.injEq, Prod.mk.injEq] at E
                obtain ⟨rfl, rfl, rfl, rfl⟩ := E
                exact bodyPost_ret (v := .tuple #[]) (by first | rfl | simp [results, Tryd.results18, go_sem]) rfl ⟨rfl, _, F⟩
              | false =>
                rw [if_neg (by decide)] at A1
                have A5 : Aside0 (((sec_find word 4 2).bind fun o => some (sec_fin p s3 b3 o)) = some (r1, r2, r3, r4)) := ⟨by rw [A1]; exact H⟩
                clear A1 H HX
                have xk := sec_ix1
                go_wp2_with (go_at_call 40; refine (chars_Same.calls _ _ false _ A4.out).mono ?_; rintro e w5 ⟨rfl, hB5⟩; have HI5 := Aside0.mk (HIr.out.below hB5); clear hB5)
                go_roundw
                case rel => exact ⟨2, rfl, ⟨by decide⟩, A5, HI5⟩
                case measure => decide
            · have H := HX.out
              have H : ((chars_Same.f (⟨#[72, 69, 65, 68, 69, 82, 46, 70, 73, 69, 76, 68, 83]⟩ : ByteArray) word).bind fun t => if t = true then some (some 2) else sec_find word 3 3).bind (fun o => some (sec_fin p s3 b3 o)) = some (r1, r2, r3, r4) := H
              obtain ⟨o, A1, H⟩ := Option.bind_eq_some_iff.mp H
              obtain ⟨t, A2, A1⟩ := Option.bind_eq_some_iff.mp A1
              have A3 : chars_Same.f (⟨#[72, 69, 65, 68, 69, 82, 46, 70, 73, 69, 76, 68, 83]⟩ : ByteArray) word = some t := A2
              have A4 := Aside0.mk A3
              clear A2 A3
              cases t with
              | true =>
                rw [if_pos rfl] at A1
                obtain rfl := Option.some.inj A1
                have A5 := Aside0.mk H
                clear A1 H HX
                have xk := sec_ix2
                go_wp2_with (go_at_call 40; refine (chars_Same.calls _ _ true _ A4.out).mono ?_; rintro e w5 ⟨rfl, hB5⟩; have HI5 := Aside0.mk (HIr.out.below hB5); have k1 := blk_cell HI5.out.sp 1; have f1 := blk_frozen HI5.out.sp 1; clear hB5)
                have F := HI5.out.put 2 HH.out
                have E := A5.out
                simp only [sec_fin, Option.some.injEq, Prod.mk.injEq] at E
                obtain ⟨rfl, rfl, rfl, rfl⟩ := E
                exact bodyPost_ret (v := .tuple #[]) (by first | rfl | simp [results, Tryd.results18, go_sem]) rfl ⟨rfl, _, F⟩
              | false =>
                rw [if_neg (by decide)] at A1
                have A5 : Aside0 (((sec_find word 3 3).bind fun o => some (sec_fin p s3 b3 o)) = some (r1, r2, r3, r4)) := ⟨by rw [A1]; exact H⟩
                clear A1 H HX
                have xk := sec_ix2
                go_wp2_with (go_at_call 40; refine (chars_Same.calls _ _ false _ A4.out).mono ?_; rintro e w5 ⟨rfl, hB5⟩; have HI5 := Aside0.mk (HIr.out.below hB5); clear hB5)
                go_roundw
                case rel => exact ⟨3, rfl, ⟨by decide⟩, A5, HI5⟩
                case measure => decide
            · have H := HX.out
              have H : ((chars_Same.f (⟨#[72, 69, 65, 68, 69, 82, 46, 70, 73, 69, 76, 68, 83, 46, 78, 79, 84]⟩ : ByteArray) word).bind fun t => if t = true then some (some 3) else sec_find word 2 4).bind (fun o => some (sec_fin p s3 b3 o)) = some (r1, r2, r3, r4) := H
              obtain ⟨o, A1, H⟩ := Option.bind_eq_some_iff.mp H
              obtain ⟨t, A2, A1⟩ := Option.bind_eq_some_iff.mp A1
              have A3 : chars_Same.f (⟨#[72, 69, 65, 68, 69, 82, 46, 70, 73, 69, 76, 68, 83, 46, 78, 79, 84]⟩ : ByteArray) word = some t := A2
              have A4 := Aside0.mk A3
              clear A2 A3
              cases t with
              | true =>
                rw [if_pos rfl] at A1
                obtain rfl := Option.some.inj A1
                have A5 := Aside0.mk H
                clear A1 H HX
                have xk := sec_ix3
                go_wp2_with (go_at_call 40; refine (chars_Same.calls _ _ true _ A4.out).mono ?_; rintro e w5 ⟨rfl, hB5⟩; have HI5 := Aside0.mk (HIr.out.below hB5); have k1 := blk_cell HI5.out.sp 1; have f1 := blk_frozen HI5.out.sp 1; clear hB5)
                have F := HI5.out.put 3 HH.out
                have E := A5.out
                simp only [sec_fin, Option.some.injEq, Prod.mk.injEq] at E
                obtain ⟨rfl, rfl, rfl, rfl⟩ := E
                exact bodyPost_ret (v := .tuple #[]) (by first | rfl | simp [results, Tryd.results18, go_sem]) rfl ⟨rfl, _, F⟩
              | false =>
                rw [if_neg (by decide)] at A1
                have A5 : Aside0 (((sec_find word 2 4).bind fun o => some (sec_fin p s3 b3 o)) = some (r1, r2, r3, r4)) := ⟨by rw [A1]; exact H⟩
                clear A1 H HX
                have xk := sec_ix3
                go_wp2_with (go_at_call 40; refine (chars_Same.calls _ _ false _ A4.out).mono ?_; rintro e w5 ⟨rfl, hB5⟩; have HI5 := Aside0.mk (HIr.out.below hB5); clear hB5)
                go_roundw
                case rel => exact ⟨4, rfl, ⟨by decide⟩, A5, HI5⟩
                case measure => decide
            · have H := HX.out
              have H : ((chars_Same.f (⟨#[84, 69, 88, 84]⟩ : ByteArray) word).bind fun t => if t = true then some (some 4) else sec_find word 1 5).bind (fun o => some (sec_fin p s3 b3 o)) = some (r1, r2, r3, r4) := H
              obtain ⟨o, A1, H⟩ := Option.bind_eq_some_iff.mp H
              obtain ⟨t, A2, A1⟩ := Option.bind_eq_some_iff.mp A1
              have A3 : chars_Same.f (⟨#[84, 69, 88, 84]⟩ : ByteArray) word = some t := A2
              have A4 := Aside0.mk A3
              clear A2 A3
              cases t with
              | true =>
                rw [if_pos rfl] at A1
                obtain rfl := Option.some.inj A1
                have A5 := Aside0.mk H
                clear A1 H HX
                have xk := sec_ix4
                go_wp2_with (go_at_call 40; refine (chars_Same.calls _ _ true _ A4.out).mono ?_; rintro e w5 ⟨rfl, hB5⟩; have HI5 := Aside0.mk (HIr.out.below hB5); have k1 := blk_cell HI5.out.sp 1; have f1 := blk_frozen HI5.out.sp 1; clear hB5)
                have F := HI5.out.put 4 HH.out
                have E := A5.out
                simp only [sec_fin, Option.some.injEq, Prod.mk.injEq] at E
                obtain ⟨rfl, rfl, rfl, rfl⟩ := E
                exact bodyPost_ret (v := .tuple #[]) (by first | rfl | simp [results, Tryd.results18, go_sem]) rfl ⟨rfl, _, F⟩
              | false =>
                rw [if_neg (by decide)] at A1
                have A5 : Aside0 (((sec_find word 1 5).bind fun o => some (sec_fin p s3 b3 o)) = some (r1, r2, r3, r4)) := ⟨by rw [A1]; exact H⟩
                clear A1 H HX
                have xk := sec_ix4
                go_wp2_with (go_at_call 40; refine (chars_Same.calls _ _ false _ A4.out).mono ?_; rintro e w5 ⟨rfl, hB5⟩; have HI5 := Aside0.mk (HIr.out.below hB5); clear hB5)
                go_roundw
                case rel => exact ⟨5, rfl, ⟨by decide⟩, A5, HI5⟩
                case measure => decide
            · have H := HX.out
              have H : ((chars_Same.f (⟨#[77, 73, 77, 69]⟩ : ByteArray) word).bind fun t => if t = true then some (some 5) else sec_find word 0 6).bind (fun o => some (sec_fin p s3 b3 o)) = some (r1, r2, r3, r4) := H
              obtain ⟨o, A1, H⟩ := Option.bind_eq_some_iff.mp H
              obtain ⟨t, A2, A1⟩ := Option.bind_eq_some_iff.mp A1
              have A3 : chars_Same.f (⟨#[77, 73, 77, 69]⟩ : ByteArray) word = some t := A2
              have A4 := Aside0.mk A3
              clear A2 A3
              cases t with
              | true =>
                rw [if_pos rfl] at A1
                obtain rfl := Option.some.inj A1
                have A5 := Aside0.mk H
                clear A1 H HX
                have xk := sec_ix5
                go_wp2_with (go_at_call 40; refine (chars_Same.calls _ _ true _ A4.out).mono ?_; rintro e w5 ⟨rfl, hB5⟩; have HI5 := Aside0.mk (HIr.out.below hB5); have k1 := blk_cell HI5.out.sp 1; have f1 := blk_frozen HI5.out.sp 1; clear hB5)
                have F := HI5.out.put 5 HH.out
                have E := A5.out
                simp only [sec_fin, Option.some.injEq, Prod.mk.injEq] at E
                obtain ⟨rfl, rfl, rfl, rfl⟩ := E
                exact bodyPost_ret (v := .tuple #[]) (by first | rfl | simp [results, Tryd.results18, go_sem]) rfl ⟨rfl, _, F⟩
              | false =>
                rw [if_neg (by decide)] at A1
                have A5 : Aside0 (((sec_find word 0 6).bind fun o => some (sec_fin p s3 b3 o)) = some (r1, r2, r3, r4)) := ⟨by rw [A1]; exact H⟩
                clear A1 H HX
                have xk := sec_ix5
                go_wp2_with (go_at_call 40; refine (chars_Same.calls _ _ false _ A4.out).mono ?_; rintro e w5 ⟨rfl, hB5⟩; have HI5 := Aside0.mk (HIr.out.below hB5); clear hB5)
                go_roundw
                case rel => exact ⟨6, rfl, ⟨by decide⟩, A5, HI5⟩
                case measure => decide
            · have E := HX.out
              have E : some (sec_fin p s3 b3 none) = some (r1, r2, r3, r4) := E
              simp only [Option.some.injEq, sec_fin, Prod.mk.injEq] at E
              obtain ⟨rfl, rfl, rfl, rfl⟩ := E
              have e1 := cellS50_1 HIr.out.rd.1
              have e2 := blk_frozen HIr.out.rd.1 1
              clear HX
              go_wp2_with fail
              go_end0
              exact ⟨rfl, _, HIr.out.bad _⟩

/-! ### section_reader_name: function 41 -/
def section_reader_name.l0 : Nat → List Int → Int → ByteArray → Bool → Option (ByteArray × ByteArray × Bool)
 | 0, _, _, _, _ => none
 | k + 1, x4, x5, x1000, x1001 => if x5 < (x1000.size : Int) then (if 0 ≤ x5 then (if (bt x1000 x5) = 34 then (if 0 ≤ (wrap64 (x5 + 1)) then (if (wrap64 (x5 + 1)) ≤ (x1000.size : Int) then (some (strOfNums x4, x1000.extract ((wrap64 (x5 + 1)) : Int).toNat x1000.size, x1001)) else (none)) else (none)) else (if (bt x1000 x5) = 92 then (if (wrap64 (x5 + 1)) = (x1000.size : Int) then (some ((⟨#[]⟩ : ByteArray), x1000, true)) else (if 0 ≤ (wrap64 (x5 + 1)) then (if (wrap64 (x5 + 1)) < (x1000.size : Int) then (if (bt x1000 (wrap64 (x5 + 1))) = 34 then (if x4.length < 140737488355328 then (section_reader_name.l0 k (x4 ++ [bt x1000 (wrap64 (x5 + 1))]) (wrap64 ((wrap64 (x5 + 1)) + 1)) x1000 x1001) else (none)) else (if (bt x1000 (wrap64 (x5 + 1))) = 92 then (if x4.length < 140737488355328 then (section_reader_name.l0 k (x4 ++ [bt x1000 (wrap64 (x5 + 1))]) (wrap64 ((wrap64 (x5 + 1)) + 1)) x1000 x1001) else (none)) else (some ((⟨#[]⟩ : ByteArray), x1000, true)))) else (none)) else (none))) else (if x4.length < 140737488355328 then (section_reader_name.l0 k (x4 ++ [bt x1000 x5]) (wrap64 (x5 + 1)) x1000 x1001) else (none)))) else (none)) else (some ((⟨#[]⟩ : ByteArray), x1000, true))
def section_reader_name.f (k : Nat) (s0_0 : ByteArray) (s0_1 : Bool) : Option (ByteArray × ByteArray × Bool) := (section_reader_is.f s0_0 s0_1 (⟨#[34]⟩ : ByteArray)).bind fun bt127 => (if bt127.1 = true then (section_reader_name.l0 k ([] : List Int) 0 bt127.2.1 bt127.2.2) else ((section_reader_run.f bt127.2.1 bt127.2.2 50).bind fun bt130 => (if bt130.1.toList = ([] : List UInt8) then (some (bt130.1, bt130.2.1, true)) else (some (bt130.1, bt130.2.1, bt130.2.2)))))
theorem section_reader_name.mono_l : ∀ k, (∀ y0 y1 y2 y3, LeO (section_reader_name.l0 k y0 y1 y2 y3) (section_reader_name.l0 (k + 1) y0 y1 y2 y3))
 | 0 => fun _ _ _ _ r h => by simp [section_reader_name.l0] at h
 | k + 1 => by
  have ih0 := section_reader_name.mono_l k
  ·intro y0 y1 y2 y3
   unfold section_reader_name.l0
   repeat' first
   | (with_reducible exact ih0 _ _ _ _)
   | (with_reducible exact LeO.refl _)
   | (with_reducible exact LeO.none _)
   | (with_reducible refine LeO.ite ?_ ?_)
   | (with_reducible refine LeO.bind ?_ (fun _ => ?_))
   | exact ih0 _ _ _ _
   | exact LeO.none _
   | refine LeO.ite ?_ ?_
   | refine LeO.bind ?_ (fun _ => ?_)
theorem section_reader_name.mono : ∀ a0 a1 k, LeO (section_reader_name.f k a0 a1) (section_reader_name.f (k + 1) a0 a1) := by
 intro a0 a1 k
 have ih0 := section_reader_name.mono_l k
 unfold section_reader_name.f
 repeat' first
   | (with_reducible exact ih0 _ _ _ _)
   | (with_reducible exact LeO.refl _)
   | (with_reducible exact LeO.none _)
   | (with_reducible refine LeO.ite ?_ ?_)
   | (with_reducible refine LeO.bind ?_ (fun _ => ?_))
   | exact ih0 _ _ _ _
   | exact LeO.none _
   | refine LeO.ite ?_ ?_
   | refine LeO.bind ?_ (fun _ => ?_)
set_option maxHeartbeats 8000000 in
set_option maxRecDepth 100000 in
theorem section_reader_name.calls (k : Nat) (g : Nat) (s0_0 : ByteArray) (s0_1 : Bool) (r1 : ByteArray) (r2 : ByteArray) (r3 : Bool) (w0 w : World) (hI : IsS50 w0 w g s0_0 s0_1) (hB : Below w0.heap.size w0 w) (h : section_reader_name.f k s0_0 s0_1 = some (r1, r2, r3)) :
  Calls Tryd.prog 41 #[.pointer (some ⟨g, 0, none⟩)] w fun e w' => e = .returned (.string r1) ∧ IsS50 w0 w' g r2 r3 ∧ Below w0.heap.size w0 w' ∧ KeepBut w w' g none := by
 have HI0 := Aside0.mk hI
 have HGL_ := Aside0.mk (blk_lt hI.1)
 have HK := Aside0.mk (KeepBut.refl w g none)
 have HL := Aside0.mk hB.size
 clear hI
 have HW0 := Aside0.mk hB.size
 have HB := Aside0.mk hB
 clear hB
 have H : ((section_reader_is.f s0_0 s0_1 (⟨#[34]⟩ : ByteArray)).bind fun bt127 => (if bt127.1 = true then (section_reader_name.l0 k ([] : List Int) 0 bt127.2.1 bt127.2.2) else ((section_reader_run.f bt127.2.1 bt127.2.2 50).bind fun bt130 => (if bt130.1.toList = ([] : List UInt8) then (some (bt130.1, bt130.2.1, true)) else (some (bt130.1, bt130.2.1, bt130.2.2)))))) = some (r1, r2, r3) := h
 clear h
 replace H := Option.bind_eq_some_iff.mp H
 obtain ⟨⟨t127, t128, t129⟩, A20, H⟩ := H
 replace H : (if t127 = true then (section_reader_name.l0 k ([] : List Int) 0 t128 t129) else ((section_reader_run.f t128 t129 50).bind fun bt130 => (if bt130.1.toList = ([] : List UInt8) then (some (bt130.1, bt130.2.1, true)) else (some (bt130.1, bt130.2.1, bt130.2.2))))) = some (r1, r2, r3) := H
 have A2 := Aside0.mk A20
 clear A20
 by_cases c3 : t127 = true
 ·subst c3
  have H1 : (section_reader_name.l0 k ([] : List Int) 0 t128 t129) = some (r1, r2, r3) := by rw [if_pos rfl] at H; exact H
  clear H
  have H := H1
  clear H1
  have H' := Aside0.mk H
  clear H
  go_enter Tryd.func41, Tryd.ntmps41
  (try go_step3)
  go_wp2_with (first | go_step3 | ((with_reducible refine gate_callee (f := 21) rfl ?_); refine goesL_ (some 7) rfl rfl Tryd.func21 (by kernel_rfl) rfl #[.pointer (some ⟨g, 0, none⟩), .string (⟨#[34]⟩ : ByteArray)] rfl qa_ ?_; (with_reducible refine (section_reader_is.calls g s0_0 s0_1 (⟨#[34]⟩ : ByteArray) true t128 t129 w0 _ ?side1 ?side2 A2.out).mono ?_); (case side1 => repeat (first | (with_reducible first | exact HI0.out | apply IsS50.alloc | apply IsS50.drewN | apply IsS50.drew | apply IsS50.set_0 | apply IsS50.set_1) | exact HI0.out)); (case side2 => repeat (first | (with_reducible first | exact HB.out | apply below_alloc | apply pw_below_drewN | apply below_drew1 | refine below_set ?_ (IsS50.ge HI0.out)) | exact HB.out)); rintro e w4 ⟨rfl, hi, hb, hk⟩; refine ⟨_, rfl, ?_⟩; have n0_ := Aside0.mk (KeepBut.trans (qh_ HK.out) hk (.inl rfl)); have n1_ := Aside0.mk (hb); have n2_ := Aside0.mk (hi); clear HK; clear HB; clear HI0; have HK := n0_; have HB := n1_; have HI0 := n2_; clear n0_ n1_ n2_; (try clear hb); (try clear hb2); (try clear hk); (try clear hi)))
  go_loopg [4, 5] k (fun kq v4 v5 w' => ∃ (x4_1 : List Int) (x5_1 : Int) (x1000_1 : ByteArray), v5 = .int .i64 x5_1 ∧ Aside0 (section_reader_name.l0 kq x4_1 x5_1 x1000_1 t129 = some (r1, r2, r3)) ∧ Aside0 (kq ≤ k) ∧ Aside0 (Kd.R (Kd.int .u8) 5 w' w.heap.size (fun _ => True) v4 x4_1) ∧ Aside0 (IsS50 w0 w' g x1000_1 t129) ∧ Aside0 (KeepBut w w' g none) ∧ Aside0 (Below w0.heap.size w0 w'))
  case atStart => exact ⟨(([] : List Int)), (0), (t128), qr_, H', ⟨Nat.le_refl _⟩, ⟨qn_⟩, ⟨by repeat (first | (with_reducible first | exact HI0.out | apply IsS50.alloc | apply IsS50.drewN | apply IsS50.drew | apply IsS50.set_0 | apply IsS50.set_1) | exact HI0.out)⟩, ⟨qh_ HK.out⟩, ⟨by repeat (first | (with_reducible first | exact HB.out | apply below_alloc | apply pw_below_drewN | apply below_drew1 | refine below_set ?_ (IsS50.ge HI0.out)) | exact HB.out)⟩⟩
  case round =>
   clear H'
   (try clear c3)
   obtain ⟨x4_1, x5_1, x1000_1, rfl, HA, HK1, HO_4, HI0, HK, HB⟩ := hrel
   cases gk with
   | zero => exact absurd HA.out (by simp [section_reader_name.l0])
   | succ k1 =>
    have H := HA.out
    clear HA
    simp only [section_reader_name.l0] at H
    by_cases c5 : x5_1 < (x1000_1.size : Int)
    ·rw [if_pos c5] at H
     have c5b0 : decide (x5_1 < (x1000_1.size : Int)) = true := decide_eq_true c5
     clear c5
     by_cases c6 : 0 ≤ x5_1
     ·rw [if_pos c6] at H
      have c6b0 : decide (0 ≤ x5_1) = true := decide_eq_true c6
      clear c6
      by_cases c8 : (bt x1000_1 x5_1) = 34
      ·rw [if_pos c8] at H
       have c8b0 : ((bt x1000_1 x5_1) == 34) = true := beq_iff_eq.mpr c8
       have c8b1 : ((bt x1000_1 x5_1) != 34) = false := bne_eq_false_iff_eq.mpr c8
       clear c8
       obtain ⟨ji9, hji9⟩ : ∃ j_ : Int, (wrap64 (x5_1 + 1)) = j_ := ⟨_, rfl⟩
       replace H : (if 0 ≤ (ji9) then (if (ji9) ≤ (x1000_1.size : Int) then (some (strOfNums x4_1, x1000_1.extract ((ji9) : Int).toNat x1000_1.size, t129)) else (none)) else (none)) = some (r1, r2, r3) := by first | (rw [hji9] at H; exact H) | (simp only [hji9] at H ⊢; exact H)
       have hji9w : (IntKind.i64.wrap (x5_1 + 1)) = ji9 := (i64_w _).trans hji9
       by_cases c10 : 0 ≤ (ji9)
       ·rw [if_pos c10] at H
        have c10b0 := eq_true c10
        have c10b1 : decide (0 ≤ (ji9)) = true := decide_eq_true c10
        clear c10
        by_cases c11 : (ji9) ≤ (x1000_1.size : Int)
        ·rw [if_pos c11] at H
         have c11b0 := eq_true c11
         have c11b1 : decide ((ji9) ≤ (x1000_1.size : Int)) = true := decide_eq_true c11
         clear c11
         simp only [Option.some.injEq, Prod.mk.injEq] at H
         obtain ⟨rfl, rfl, rfl⟩ := H
         obtain ⟨HGz12, hgz12⟩ := HI0.out
         have hcz12_0 := cellS50_0 HGz12
         have hcz12_1 := cellS50_1 HGz12
         have hfz12_0 := blk_frozen HGz12 0
         have hfz12_1 := blk_frozen HGz12 1
         clear HGz12 hgz12
         have p7 : 0 ≤ (x5_1 : Int) := qd_
         have q7 : x5_1 < (x1000_1.size : Int) := qd_
         have hx7 := bt_at x1000_1 x5_1
         replace p7 := eq_true p7
         replace q7 := eq_true q7
         have hcv13 := fun n_ : Nat => own_string (P := Tryd.prog) Tryd.underlying42 Tryd.underlying5 Tryd.underlying9 (Kd.own_of_R (Kd.R_drewN HO_4.out n_))
         have hcv14 := fun m_ n_ : Nat => own_string (P := Tryd.prog) Tryd.underlying42 Tryd.underlying5 Tryd.underlying9 (Kd.own_of_R (Kd.R_drewN (Kd.R_drewN HO_4.out m_) n_))
         have hcv15 := own_string (P := Tryd.prog) Tryd.underlying42 Tryd.underlying5 Tryd.underlying9 (Kd.own_of_R HO_4.out)
         (try have hcv15d := fun n_ : Nat => own_string (P := Tryd.prog) Tryd.underlying42 Tryd.underlying5 Tryd.underlying9 (Kd.own_of_R (Kd.R_drewN HO_4.out n_)))
         (try have hcv15s := fun (q_ : Nat) (u_ : Value) => own_string (P := Tryd.prog) Tryd.underlying42 Tryd.underlying5 Tryd.underlying9 (Kd.own_of_R (Kd.R_far (Kd.R_mono (Kd.R_bound HO_4.out) (ok' := fun k_ => k_ ≠ g) (fun k_ hk_ => by have h1_ := hk_.2.1; have h2_ := HGL_.out; omega)) (p := ⟨g, q_, none⟩) (fun k_ hk_ => hk_) u_)))
         go_wp2_with go_step3
         (first | go_ret | (rw [Exit.noGoto_ret]; go_ret))
         exact ⟨by first | rfl | (simp [errW_none, errW_some] <;> rfl) | (simp only [← hji9]; first | rfl | (simp [errW_none, errW_some] <;> rfl)) | (simp [*, errW_none, errW_some] <;> rfl), by repeat (first | (with_reducible first | exact HI0.out | apply IsS50.alloc | apply IsS50.drewN | apply IsS50.drew | apply IsS50.set_0 | apply IsS50.set_1) | exact HI0.out), by repeat (first | (with_reducible first | exact HB.out | apply below_alloc | apply pw_below_drewN | apply below_drew1 | refine below_set ?_ (IsS50.ge HI0.out)) | exact HB.out), qh_ HK.out⟩
        ·rw [if_neg c11] at H
         exact absurd H (by simp)
       ·rw [if_neg c10] at H
        exact absurd H (by simp)
      ·rw [if_neg c8] at H
       have c8b0 : ((bt x1000_1 x5_1) == 34) = false := beq_eq_false_iff_ne.mpr c8
       have c8b1 : ((bt x1000_1 x5_1) != 34) = true := bne_iff_ne.mpr c8
       by_cases c16 : (bt x1000_1 x5_1) = 92
       ·rw [if_pos c16] at H
        have c16b0 : ((bt x1000_1 x5_1) == 92) = true := beq_iff_eq.mpr c16
        have c16b1 : ((bt x1000_1 x5_1) != 92) = false := bne_eq_false_iff_eq.mpr c16
        clear c16
        by_cases c17 : (wrap64 (x5_1 + 1)) = (x1000_1.size : Int)
        ·rw [if_pos c17] at H
         have c17b0 : ((wrap64 (x5_1 + 1)) == (x1000_1.size : Int)) = true := beq_iff_eq.mpr c17
         have c17b1 : ((wrap64 (x5_1 + 1)) != (x1000_1.size : Int)) = false := bne_eq_false_iff_eq.mpr c17
         clear c17
         simp only [Option.some.injEq, Prod.mk.injEq] at H
         obtain ⟨rfl, rfl, rfl⟩ := H
         obtain ⟨HGz18, hgz18⟩ := HI0.out
         have hcz18_0 := cellS50_0 HGz18
         have hcz18_1 := cellS50_1 HGz18
         have hfz18_0 := blk_frozen HGz18 0
         have hfz18_1 := blk_frozen HGz18 1
         clear HGz18 hgz18
         have p7 : 0 ≤ (x5_1 : Int) := qd_
         have q7 : x5_1 < (x1000_1.size : Int) := qd_
         have hx7 := bt_at x1000_1 x5_1
         replace p7 := eq_true p7
         replace q7 := eq_true q7
         go_wp2_with go_step3
         (first | go_ret | (rw [Exit.noGoto_ret]; go_ret))
         exact ⟨qw_, by repeat (first | (with_reducible first | exact HI0.out | apply IsS50.alloc | apply IsS50.drewN | apply IsS50.drew | apply IsS50.set_0 | apply IsS50.set_1) | exact HI0.out), by repeat (first | (with_reducible first | exact HB.out | apply below_alloc | apply pw_below_drewN | apply below_drew1 | refine below_set ?_ (IsS50.ge HI0.out)) | exact HB.out), qh_ HK.out⟩
        ·rw [if_neg c17] at H
         have c17b0 : ((wrap64 (x5_1 + 1)) == (x1000_1.size : Int)) = false := beq_eq_false_iff_ne.mpr c17
         have c17b1 : ((wrap64 (x5_1 + 1)) != (x1000_1.size : Int)) = true := bne_iff_ne.mpr c17
         obtain ⟨ji19, hji19⟩ : ∃ j_ : Int, (wrap64 (x5_1 + 1)) = j_ := ⟨_, rfl⟩
         replace H : (if 0 ≤ (ji19) then (if (ji19) < (x1000_1.size : Int) then (if (bt x1000_1 (ji19)) = 34 then (if x4_1.length < 140737488355328 then (section_reader_name.l0 k1 (x4_1 ++ [bt x1000_1 (ji19)]) (wrap64 ((ji19) + 1)) x1000_1 t129) else (none)) else (if (bt x1000_1 (ji19)) = 92 then (if x4_1.length < 140737488355328 then (section_reader_name.l0 k1 (x4_1 ++ [bt x1000_1 (ji19)]) (wrap64 ((ji19) + 1)) x1000_1 t129) else (none)) else (some ((⟨#[]⟩ : ByteArray), x1000_1, true)))) else (none)) else (none)) = some (r1, r2, r3) := by first | (rw [hji19] at H; exact H) | (simp only [hji19] at H ⊢; exact H)
         (try rw [hji19] at c17b0)
         (try rw [hji19] at c17b1)
         have hji19w : (IntKind.i64.wrap (x5_1 + 1)) = ji19 := (i64_w _).trans hji19
         by_cases c20 : 0 ≤ (ji19)
         ·rw [if_pos c20] at H
          have c20b0 : decide (0 ≤ (ji19)) = true := decide_eq_true c20
          clear c20
          by_cases c21 : (ji19) < (x1000_1.size : Int)
          ·rw [if_pos c21] at H
           have c21b0 : decide ((ji19) < (x1000_1.size : Int)) = true := decide_eq_true c21
           clear c21
           by_cases c23 : (bt x1000_1 (ji19)) = 34
           ·rw [if_pos c23] at H
            have c23b0 : ((bt x1000_1 (ji19)) == 34) = true := beq_iff_eq.mpr c23
            have c23b1 : ((bt x1000_1 (ji19)) != 34) = false := bne_eq_false_iff_eq.mpr c23
            clear c23
            by_cases c25 : x4_1.length < 140737488355328
            ·rw [if_pos c25] at H
             have LMc25 := Aside0.mk c25
             clear c25
             obtain ⟨y133, hy133⟩ : ∃ y_ : List Int, y_ = (x4_1 ++ [bt x1000_1 (ji19)]) := ⟨_, rfl⟩
             replace H : (section_reader_name.l0 k1 y133 (wrap64 ((ji19) + 1)) x1000_1 t129) = some (r1, r2, r3) := by first | (rw [hy133]; with_reducible exact H) | (have H2_ := (Option.bind_some _ _).symm.trans H; rw [hy133]; with_reducible exact H2_) | (have H2_ := (Option.bind_some _ _).symm.trans H; with_reducible exact H2_) | with_reducible exact H | (rw [hy133]; exact H) | exact H
             have Ny133 := Aside0.mk hy133
             clear hy133
             have H' := Aside0.mk H
             clear H
             obtain ⟨HGz26, hgz26⟩ := HI0.out
             have hcz26_0 := cellS50_0 HGz26
             have hcz26_1 := cellS50_1 HGz26
             have hfz26_0 := blk_frozen HGz26 0
             have hfz26_1 := blk_frozen HGz26 1
             clear HGz26 hgz26
             have p7 : 0 ≤ (x5_1 : Int) := qd_
             have q7 : x5_1 < (x1000_1.size : Int) := qd_
             have hx7 := bt_at x1000_1 x5_1
             replace p7 := eq_true p7
             replace q7 := eq_true q7
             have p22 : 0 ≤ ((ji19) : Int) := qd_
             have q22 : (ji19) < (x1000_1.size : Int) := qd_
             have hx22 := bt_at x1000_1 (ji19)
             replace p22 := eq_true p22
             replace q22 := eq_true q22
             have p24 : 0 ≤ ((ji19) : Int) := qd_
             have q24 : (ji19) < (x1000_1.size : Int) := qd_
             have hx24 := bt_at x1000_1 (ji19)
             replace p24 := eq_true p24
             replace q24 := eq_true q24
             go_wp2_with (first | go_step3 | ((with_reducible refine gate_builtin (b := .append) (xs := #[.tmp 81, .tmp 88]) rfl ?_); at_builtin; refine Kd.R_append (Kd.int .u8) w.heap.size rfl (.tmp 81) (.tmp 88) 42 5 (.int .u8 0) 1 rfl Tryd.underlying42 info5 rfl (by decide) (by omega) u4 x4_1 (bt x1000_1 (ji19)) [.int .u8 (bt x1000_1 (ji19))] (fun _ => True) (fun _ => False) rfl rfl ?aP (fun _ hk => hk.elim) ?aF ?aO (Below.refl _ _) ?aS ?aL ?_; (case aP => exact rfl); (case aF => exact (fun _ _ => trivial)); (case aO => exact (ql_ HO_4.out)); (case aS => exact (keep_size (w := w) (g := g) (row := none) (qh_ HK.out))); (case aL => have := LMc25.out; omega); intro v134 w27 ho hb hg hat; rw [← Ny133.out] at ho; have n0_ := Aside0.mk (IsS50.grown (by repeat (first | (with_reducible first | exact HI0.out | apply IsS50.alloc | apply IsS50.drewN | apply IsS50.drew | apply IsS50.set_0 | apply IsS50.set_1) | exact HI0.out)) hg (IsS50.own_ne HI0.out HO_4.out (by decide))); have n1_ := Aside0.mk (below_weaken (by repeat (first | (with_reducible first | exact HB.out | apply below_alloc | apply pw_below_drewN | apply below_drew1 | refine below_set ?_ (IsS50.ge HI0.out)) | exact HB.out)) HL.out hb); have n2_ := Aside0.mk (KeepBut.trans (qh_ HK.out) (KeepBut.of_grown hg g) (Kd.R_base2 HO_4.out)); have n3_ := Aside0.mk (ho); clear HI0; clear HB; clear HK; clear HO_4; have HI0 := n0_; have HB := n1_; have HK := n2_; have HO135 := n3_; clear n0_ n1_ n2_ n3_; clear ho hb hg hat))
             go_roundg k1
             case measure => have := HK1.out; omega
             case rel => exact ⟨(y133), (wrap64 ((ji19) + 1)), (x1000_1), (by first | rfl | (simp; done) | (simp only [← hji19] <;> (first | rfl | simp)) | (simp [*]; done)), H', ⟨by have := HK1.out; omega⟩, ⟨ql_ HO135.out⟩, ⟨by repeat (first | (with_reducible first | exact HI0.out | apply IsS50.alloc | apply IsS50.drewN | apply IsS50.drew | apply IsS50.set_0 | apply IsS50.set_1) | exact HI0.out)⟩, ⟨qh_ HK.out⟩, ⟨by repeat (first | (with_reducible first | exact HB.out | apply below_alloc | apply pw_below_drewN | apply below_drew1 | refine below_set ?_ (IsS50.ge HI0.out)) | exact HB.out)⟩⟩
            ·rw [if_neg c25] at H
             exact absurd H (by simp)
           ·rw [if_neg c23] at H
            have c23b0 : ((bt x1000_1 (ji19)) == 34) = false := beq_eq_false_iff_ne.mpr c23
            have c23b1 : ((bt x1000_1 (ji19)) != 34) = true := bne_iff_ne.mpr c23
            by_cases c29 : (bt x1000_1 (ji19)) = 92
            ·rw [if_pos c29] at H
             have c29b0 : ((bt x1000_1 (ji19)) == 92) = true := beq_iff_eq.mpr c29
             have c29b1 : ((bt x1000_1 (ji19)) != 92) = false := bne_eq_false_iff_eq.mpr c29
             clear c29
             by_cases c31 : x4_1.length < 140737488355328
             ·rw [if_pos c31] at H
              have LMc31 := Aside0.mk c31
              clear c31
              obtain ⟨y136, hy136⟩ : ∃ y_ : List Int, y_ = (x4_1 ++ [bt x1000_1 (ji19)]) := ⟨_, rfl⟩
              replace H : (section_reader_name.l0 k1 y136 (wrap64 ((ji19) + 1)) x1000_1 t129) = some (r1, r2, r3) := by first | (rw [hy136]; with_reducible exact H) | (have H2_ := (Option.bind_some _ _).symm.trans H; rw [hy136]; with_reducible exact H2_) | (have H2_ := (Option.bind_some _ _).symm.trans H; with_reducible exact H2_) | with_reducible exact H | (rw [hy136]; exact H) | exact H
              have Ny136 := Aside0.mk hy136
              clear hy136
              have H' := Aside0.mk H
              clear H
              obtain ⟨HGz32, hgz32⟩ := HI0.out
              have hcz32_0 := cellS50_0 HGz32
              have hcz32_1 := cellS50_1 HGz32
              have hfz32_0 := blk_frozen HGz32 0
              have hfz32_1 := blk_frozen HGz32 1
              clear HGz32 hgz32
              have p7 : 0 ≤ (x5_1 : Int) := qd_
              have q7 : x5_1 < (x1000_1.size : Int) := qd_
              have hx7 := bt_at x1000_1 x5_1
              replace p7 := eq_true p7
              replace q7 := eq_true q7
              have p22 : 0 ≤ ((ji19) : Int) := qd_
              have q22 : (ji19) < (x1000_1.size : Int) := qd_
              have hx22 := bt_at x1000_1 (ji19)
              replace p22 := eq_true p22
              replace q22 := eq_true q22
              have p28 : 0 ≤ ((ji19) : Int) := qd_
              have q28 : (ji19) < (x1000_1.size : Int) := qd_
              have hx28 := bt_at x1000_1 (ji19)
              replace p28 := eq_true p28
              replace q28 := eq_true q28
              have p30 : 0 ≤ ((ji19) : Int) := qd_
              have q30 : (ji19) < (x1000_1.size : Int) := qd_
              have hx30 := bt_at x1000_1 (ji19)
              replace p30 := eq_true p30
              replace q30 := eq_true q30
              go_wp2_with (first | go_step3 | ((with_reducible refine gate_builtin (b := .append) (xs := #[.tmp 81, .tmp 88]) rfl ?_); at_builtin; refine Kd.R_append (Kd.int .u8) w.heap.size rfl (.tmp 81) (.tmp 88) 42 5 (.int .u8 0) 1 rfl Tryd.underlying42 info5 rfl (by decide) (by omega) u4 x4_1 (bt x1000_1 (ji19)) [.int .u8 (bt x1000_1 (ji19))] (fun _ => True) (fun _ => False) rfl rfl ?aP (fun _ hk => hk.elim) ?aF ?aO (Below.refl _ _) ?aS ?aL ?_; (case aP => exact rfl); (case aF => exact (fun _ _ => trivial)); (case aO => exact (ql_ HO_4.out)); (case aS => exact (keep_size (w := w) (g := g) (row := none) (qh_ HK.out))); (case aL => have := LMc31.out; omega); intro v137 w33 ho hb hg hat; rw [← Ny136.out] at ho; have n0_ := Aside0.mk (IsS50.grown (by repeat (first | (with_reducible first | exact HI0.out | apply IsS50.alloc | apply IsS50.drewN | apply IsS50.drew | apply IsS50.set_0 | apply IsS50.set_1) | exact HI0.out)) hg (IsS50.own_ne HI0.out HO_4.out (by decide))); have n1_ := Aside0.mk (below_weaken (by repeat (first | (with_reducible first | exact HB.out | apply below_alloc | apply pw_below_drewN | apply below_drew1 | refine below_set ?_ (IsS50.ge HI0.out)) | exact HB.out)) HL.out hb); have n2_ := Aside0.mk (KeepBut.trans (qh_ HK.out) (KeepBut.of_grown hg g) (Kd.R_base2 HO_4.out)); have n3_ := Aside0.mk (ho); clear HI0; clear HB; clear HK; clear HO_4; have HI0 := n0_; have HB := n1_; have HK := n2_; have HO138 := n3_; clear n0_ n1_ n2_ n3_; clear ho hb hg hat))
              go_roundg k1
              case measure => have := HK1.out; omega
              case rel => exact ⟨(y136), (wrap64 ((ji19) + 1)), (x1000_1), (by first | rfl | (simp; done) | (simp only [← hji19] <;> (first | rfl | simp)) | (simp [*]; done)), H', ⟨by have := HK1.out; omega⟩, ⟨ql_ HO138.out⟩, ⟨by repeat (first | (with_reducible first | exact HI0.out | apply IsS50.alloc | apply IsS50.drewN | apply IsS50.drew | apply IsS50.set_0 | apply IsS50.set_1) | exact HI0.out)⟩, ⟨qh_ HK.out⟩, ⟨by repeat (first | (with_reducible first | exact HB.out | apply below_alloc | apply pw_below_drewN | apply below_drew1 | refine below_set ?_ (IsS50.ge HI0.out)) | exact HB.out)⟩⟩
             ·rw [if_neg c31] at H
              exact absurd H (by simp)
            ·rw [if_neg c29] at H
             have c29b0 : ((bt x1000_1 (ji19)) == 92) = false := beq_eq_false_iff_ne.mpr c29
             have c29b1 : ((bt x1000_1 (ji19)) != 92) = true := bne_iff_ne.mpr c29
             simp only [Option.some.injEq, Prod.mk.injEq] at H
             obtain ⟨rfl, rfl, rfl⟩ := H
             obtain ⟨HGz34, hgz34⟩ := HI0.out
             have hcz34_0 := cellS50_0 HGz34
             have hcz34_1 := cellS50_1 HGz34
             have hfz34_0 := blk_frozen HGz34 0
             have hfz34_1 := blk_frozen HGz34 1
             clear HGz34 hgz34
             have p7 : 0 ≤ (x5_1 : Int) := qd_
             have q7 : x5_1 < (x1000_1.size : Int) := qd_
             have hx7 := bt_at x1000_1 x5_1
             replace p7 := eq_true p7
             replace q7 := eq_true q7
             have p22 : 0 ≤ ((ji19) : Int) := qd_
             have q22 : (ji19) < (x1000_1.size : Int) := qd_
             have hx22 := bt_at x1000_1 (ji19)
             replace p22 := eq_true p22
             replace q22 := eq_true q22
             have p28 : 0 ≤ ((ji19) : Int) := qd_
             have q28 : (ji19) < (x1000_1.size : Int) := qd_
             have hx28 := bt_at x1000_1 (ji19)
             replace p28 := eq_true p28
             replace q28 := eq_true q28
             go_wp2_with go_step3
             (first | go_ret | (rw [Exit.noGoto_ret]; go_ret))
             exact ⟨by first | rfl | (simp [errW_none, errW_some] <;> rfl) | (simp only [← hji19]; first | rfl | (simp [errW_none, errW_some] <;> rfl)) | (simp [*, errW_none, errW_some] <;> rfl), by repeat (first | (with_reducible first | exact HI0.out | apply IsS50.alloc | apply IsS50.drewN | apply IsS50.drew | apply IsS50.set_0 | apply IsS50.set_1) | exact HI0.out), by repeat (first | (with_reducible first | exact HB.out | apply below_alloc | apply pw_below_drewN | apply below_drew1 | refine below_set ?_ (IsS50.ge HI0.out)) | exact HB.out), qh_ HK.out⟩
          ·rw [if_neg c21] at H
           exact absurd H (by simp)
         ·rw [if_neg c20] at H
          exact absurd H (by simp)
       ·rw [if_neg c16] at H
        have c16b0 : ((bt x1000_1 x5_1) == 92) = false := beq_eq_false_iff_ne.mpr c16
        have c16b1 : ((bt x1000_1 x5_1) != 92) = true := bne_iff_ne.mpr c16
        by_cases c36 : x4_1.length < 140737488355328
        ·rw [if_pos c36] at H
         have LMc36 := Aside0.mk c36
         clear c36
         obtain ⟨y139, hy139⟩ : ∃ y_ : List Int, y_ = (x4_1 ++ [bt x1000_1 x5_1]) := ⟨_, rfl⟩
         replace H : (section_reader_name.l0 k1 y139 (wrap64 (x5_1 + 1)) x1000_1 t129) = some (r1, r2, r3) := by first | (rw [hy139]; with_reducible exact H) | (have H2_ := (Option.bind_some _ _).symm.trans H; rw [hy139]; with_reducible exact H2_) | (have H2_ := (Option.bind_some _ _).symm.trans H; with_reducible exact H2_) | with_reducible exact H | (rw [hy139]; exact H) | exact H
         have Ny139 := Aside0.mk hy139
         clear hy139
         have H' := Aside0.mk H
         clear H
         obtain ⟨HGz37, hgz37⟩ := HI0.out
         have hcz37_0 := cellS50_0 HGz37
         have hcz37_1 := cellS50_1 HGz37
         have hfz37_0 := blk_frozen HGz37 0
         have hfz37_1 := blk_frozen HGz37 1
         clear HGz37 hgz37
         have p7 : 0 ≤ (x5_1 : Int) := qd_
         have q7 : x5_1 < (x1000_1.size : Int) := qd_
         have hx7 := bt_at x1000_1 x5_1
         replace p7 := eq_true p7
         replace q7 := eq_true q7
         have p35 : 0 ≤ (x5_1 : Int) := qd_
         have q35 : x5_1 < (x1000_1.size : Int) := qd_
         have hx35 := bt_at x1000_1 x5_1
         replace p35 := eq_true p35
         replace q35 := eq_true q35
         go_wp2_with (first | go_step3 | ((with_reducible refine gate_builtin (b := .append) (xs := #[.tmp 81, .tmp 88]) rfl ?_); at_builtin; refine Kd.R_append (Kd.int .u8) w.heap.size rfl (.tmp 81) (.tmp 88) 42 5 (.int .u8 0) 1 rfl Tryd.underlying42 info5 rfl (by decide) (by omega) u4 x4_1 (bt x1000_1 x5_1) [.int .u8 (bt x1000_1 x5_1)] (fun _ => True) (fun _ => False) rfl rfl ?aP (fun _ hk => hk.elim) ?aF ?aO (Below.refl _ _) ?aS ?aL ?_; (case aP => exact rfl); (case aF => exact (fun _ _ => trivial)); (case aO => exact (ql_ HO_4.out)); (case aS => exact (keep_size (w := w) (g := g) (row := none) (qh_ HK.out))); (case aL => have := LMc36.out; omega); intro v140 w38 ho hb hg hat; rw [← Ny139.out] at ho; have n0_ := Aside0.mk (IsS50.grown (by repeat (first | (with_reducible first | exact HI0.out | apply IsS50.alloc | apply IsS50.drewN | apply IsS50.drew | apply IsS50.set_0 | apply IsS50.set_1) | exact HI0.out)) hg (IsS50.own_ne HI0.out HO_4.out (by decide))); have n1_ := Aside0.mk (below_weaken (by repeat (first | (with_reducible first | exact HB.out | apply below_alloc | apply pw_below_drewN | apply below_drew1 | refine below_set ?_ (IsS50.ge HI0.out)) | exact HB.out)) HL.out hb); have n2_ := Aside0.mk (KeepBut.trans (qh_ HK.out) (KeepBut.of_grown hg g) (Kd.R_base2 HO_4.out)); have n3_ := Aside0.mk (ho); clear HI0; clear HB; clear HK; clear HO_4; have HI0 := n0_; have HB := n1_; have HK := n2_; have HO141 := n3_; clear n0_ n1_ n2_ n3_; clear ho hb hg hat))
         go_roundg k1
         case measure => have := HK1.out; omega
         case rel => exact ⟨(y139), (wrap64 (x5_1 + 1)), (x1000_1), qr_, H', ⟨by have := HK1.out; omega⟩, ⟨ql_ HO141.out⟩, ⟨by repeat (first | (with_reducible first | exact HI0.out | apply IsS50.alloc | apply IsS50.drewN | apply IsS50.drew | apply IsS50.set_0 | apply IsS50.set_1) | exact HI0.out)⟩, ⟨qh_ HK.out⟩, ⟨by repeat (first | (with_reducible first | exact HB.out | apply below_alloc | apply pw_below_drewN | apply below_drew1 | refine below_set ?_ (IsS50.ge HI0.out)) | exact HB.out)⟩⟩
        ·rw [if_neg c36] at H
         exact absurd H (by simp)
     ·rw [if_neg c6] at H
      exact absurd H (by simp)
    ·rw [if_neg c5] at H
     have c5b0 : decide (x5_1 < (x1000_1.size : Int)) = false := decide_eq_false c5
     clear c5
     simp only [Option.some.injEq, Prod.mk.injEq] at H
     obtain ⟨rfl, rfl, rfl⟩ := H
     obtain ⟨HGz39, hgz39⟩ := HI0.out
     have hcz39_0 := cellS50_0 HGz39
     have hcz39_1 := cellS50_1 HGz39
     have hfz39_0 := blk_frozen HGz39 0
     have hfz39_1 := blk_frozen HGz39 1
     clear HGz39 hgz39
     go_wp2_with go_step3
     (first | go_ret | (rw [Exit.noGoto_ret]; go_ret))
     exact ⟨qw_, by repeat (first | (with_reducible first | exact HI0.out | apply IsS50.alloc | apply IsS50.drewN | apply IsS50.drew | apply IsS50.set_0 | apply IsS50.set_1) | exact HI0.out), by repeat (first | (with_reducible first | exact HB.out | apply below_alloc | apply pw_below_drewN | apply below_drew1 | refine below_set ?_ (IsS50.ge HI0.out)) | exact HB.out), qh_ HK.out⟩
 ·replace c3 := Bool.eq_false_iff.mpr c3
  subst c3
  have H1 : ((section_reader_run.f t128 t129 50).bind fun bt130 => (if bt130.1.toList = ([] : List UInt8) then (some (bt130.1, bt130.2.1, true)) else (some (bt130.1, bt130.2.1, bt130.2.2)))) = some (r1, r2, r3) := by rw [if_neg (show ¬ (false = true) by decide)] at H; exact H
  clear H
  have H := H1
  clear H1
  replace H := Option.bind_eq_some_iff.mp H
  obtain ⟨⟨t130, t131, t132⟩, A400, H⟩ := H
  replace H : (if t130.toList = ([] : List UInt8) then (some (t130, t131, true)) else (some (t130, t131, t132))) = some (r1, r2, r3) := H
  have A40 := Aside0.mk A400
  clear A400
  by_cases c41 : t130.toList = ([] : List UInt8)
  ·rw [if_pos c41] at H
   have c41b0 : (t130.toList == ([] : List UInt8)) = true := beq_iff_eq.mpr c41
   have c41b1 : (t130.toList != ([] : List UInt8)) = false := bne_eq_false_iff_eq.mpr c41
   clear c41
   simp only [Option.some.injEq, Prod.mk.injEq] at H
   obtain ⟨rfl, rfl, rfl⟩ := H
   go_enter Tryd.func41, Tryd.ntmps41
   go_wp2_with (first | go_step3 | ((with_reducible refine gate_callee (f := 21) rfl ?_); refine goesL_ (some 7) rfl rfl Tryd.func21 (by kernel_rfl) rfl #[.pointer (some ⟨g, 0, none⟩), .string (⟨#[34]⟩ : ByteArray)] rfl qa_ ?_; (with_reducible refine (section_reader_is.calls g s0_0 s0_1 (⟨#[34]⟩ : ByteArray) false t128 t129 w0 _ ?side1 ?side2 A2.out).mono ?_); (case side1 => repeat (first | (with_reducible first | exact HI0.out | apply IsS50.alloc | apply IsS50.drewN | apply IsS50.drew | apply IsS50.set_0 | apply IsS50.set_1) | exact HI0.out)); (case side2 => repeat (first | (with_reducible first | exact HB.out | apply below_alloc | apply pw_below_drewN | apply below_drew1 | refine below_set ?_ (IsS50.ge HI0.out)) | exact HB.out)); rintro e w42 ⟨rfl, hi, hb, hk⟩; refine ⟨_, rfl, ?_⟩; have n0_ := Aside0.mk (KeepBut.trans (qh_ HK.out) hk (.inl rfl)); have n1_ := Aside0.mk (hb); have n2_ := Aside0.mk (hi); clear HK; clear HB; clear HI0; have HK := n0_; have HB := n1_; have HI0 := n2_; clear n0_ n1_ n2_; (try clear hb); (try clear hb2); (try clear hk); (try clear hi)) | ((with_reducible refine gate_callee (f := 38) rfl ?_); refine goesL_ (some 10) rfl rfl Tryd.func38 (by kernel_rfl) rfl #[.pointer (some ⟨g, 0, none⟩), .func (.func 50) #[] #[]] rfl qa_ ?_; (with_reducible refine (section_reader_run.calls g t128 t129 50 t130 t131 t132 w0 _ ?side1 ?side2 A40.out).mono ?_); (case side1 => repeat (first | (with_reducible first | exact HI0.out | apply IsS50.alloc | apply IsS50.drewN | apply IsS50.drew | apply IsS50.set_0 | apply IsS50.set_1) | exact HI0.out)); (case side2 => repeat (first | (with_reducible first | exact HB.out | apply below_alloc | apply pw_below_drewN | apply below_drew1 | refine below_set ?_ (IsS50.ge HI0.out)) | exact HB.out)); rintro e w43 ⟨rfl, hi, hb, hk⟩; refine ⟨_, rfl, ?_⟩; have n0_ := Aside0.mk (KeepBut.trans (qh_ HK.out) hk (.inl rfl)); have n1_ := Aside0.mk (hb); have n2_ := Aside0.mk (hi); clear HK; clear HB; clear HI0; have HK := n0_; have HB := n1_; have HI0 := n2_; clear n0_ n1_ n2_; (try clear hb); (try clear hb2); (try clear hk); (try clear hi); obtain ⟨HGz44, hgz44⟩ := HI0.out; have hcz44_0 := cellS50_0 HGz44; have hcz44_1 := cellS50_1 HGz44; have hfz44_0 := blk_frozen HGz44 0; have hfz44_1 := blk_frozen HGz44 1; clear HGz44 hgz44))
   (first | go_ret | (rw [Exit.noGoto_ret]; go_ret))
   exact ⟨qw_, by repeat (first | (with_reducible first | exact HI0.out | apply IsS50.alloc | apply IsS50.drewN | apply IsS50.drew | apply IsS50.set_0 | apply IsS50.set_1) | exact HI0.out), by repeat (first | (with_reducible first | exact HB.out | apply below_alloc | apply pw_below_drewN | apply below_drew1 | refine below_set ?_ (IsS50.ge HI0.out)) | exact HB.out), qh_ HK.out⟩
  ·rw [if_neg c41] at H
   have c41b0 : (t130.toList == ([] : List UInt8)) = false := beq_eq_false_iff_ne.mpr c41
   have c41b1 : (t130.toList != ([] : List UInt8)) = true := bne_iff_ne.mpr c41
   simp only [Option.some.injEq, Prod.mk.injEq] at H
   obtain ⟨rfl, rfl, rfl⟩ := H
   go_enter Tryd.func41, Tryd.ntmps41
   go_wp2_with (first | go_step3 | ((with_reducible refine gate_callee (f := 21) rfl ?_); refine goesL_ (some 7) rfl rfl Tryd.func21 (by kernel_rfl) rfl #[.pointer (some ⟨g, 0, none⟩), .string (⟨#[34]⟩ : ByteArray)] rfl qa_ ?_; (with_reducible refine (section_reader_is.calls g s0_0 s0_1 (⟨#[34]⟩ : ByteArray) false t128 t129 w0 _ ?side1 ?side2 A2.out).mono ?_); (case side1 => repeat (first | (with_reducible first | exact HI0.out | apply IsS50.alloc | apply IsS50.drewN | apply IsS50.drew | apply IsS50.set_0 | apply IsS50.set_1) | exact HI0.out)); (case side2 => repeat (first | (with_reducible first | exact HB.out | apply below_alloc | apply pw_below_drewN | apply below_drew1 | refine below_set ?_ (IsS50.ge HI0.out)) | exact HB.out)); rintro e w45 ⟨rfl, hi, hb, hk⟩; refine ⟨_, rfl, ?_⟩; have n0_ := Aside0.mk (KeepBut.trans (qh_ HK.out) hk (.inl rfl)); have n1_ := Aside0.mk (hb); have n2_ := Aside0.mk (hi); clear HK; clear HB; clear HI0; have HK := n0_; have HB := n1_; have HI0 := n2_; clear n0_ n1_ n2_; (try clear hb); (try clear hb2); (try clear hk); (try clear hi)) | ((with_reducible refine gate_callee (f := 38) rfl ?_); refine goesL_ (some 10) rfl rfl Tryd.func38 (by kernel_rfl) rfl #[.pointer (some ⟨g, 0, none⟩), .func (.func 50) #[] #[]] rfl qa_ ?_; (with_reducible refine (section_reader_run.calls g t128 t129 50 t130 t131 t132 w0 _ ?side1 ?side2 A40.out).mono ?_); (case side1 => repeat (first | (with_reducible first | exact HI0.out | apply IsS50.alloc | apply IsS50.drewN | apply IsS50.drew | apply IsS50.set_0 | apply IsS50.set_1) | exact HI0.out)); (case side2 => repeat (first | (with_reducible first | exact HB.out | apply below_alloc | apply pw_below_drewN | apply below_drew1 | refine below_set ?_ (IsS50.ge HI0.out)) | exact HB.out)); rintro e w46 ⟨rfl, hi, hb, hk⟩; refine ⟨_, rfl, ?_⟩; have n0_ := Aside0.mk (KeepBut.trans (qh_ HK.out) hk (.inl rfl)); have n1_ := Aside0.mk (hb); have n2_ := Aside0.mk (hi); clear HK; clear HB; clear HI0; have HK := n0_; have HB := n1_; have HI0 := n2_; clear n0_ n1_ n2_; (try clear hb); (try clear hb2); (try clear hk); (try clear hi); obtain ⟨HGz47, hgz47⟩ := HI0.out; have hcz47_0 := cellS50_0 HGz47; have hcz47_1 := cellS50_1 HGz47; have hfz47_0 := blk_frozen HGz47 0; have hfz47_1 := blk_frozen HGz47 1; clear HGz47 hgz47))
   (first | go_ret | (rw [Exit.noGoto_ret]; go_ret))
   exact ⟨qw_, by repeat (first | (with_reducible first | exact HI0.out | apply IsS50.alloc | apply IsS50.drewN | apply IsS50.drew | apply IsS50.set_0 | apply IsS50.set_1) | exact HI0.out), by repeat (first | (with_reducible first | exact HB.out | apply below_alloc | apply pw_below_drewN | apply below_drew1 | refine below_set ?_ (IsS50.ge HI0.out)) | exact HB.out), qh_ HK.out⟩

end Go.Proofs.YtbjbagocnnffaaaDoor.P
