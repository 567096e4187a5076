-- Written by a program of this session (wip/tools/mk.sh) for this claim: it runs the kit's print with contracts of our own. Lean checks it.
import Derived.Test.YtbjbagocnnffaaaDoorPx0
import Derived.Test.YtbjbagocnnffaaaDoorWRepsOne
import Derived.Test.YtbjbagocnnffaaaDoorWTab
import Derived.Test.YtbjbagocnnffaaaDoorMark
import Derived.Test.YtbjbagocnnffaaaDoorWGuard
import Derived.Test.YtbjbagocnnffaaaDoorWRepsOne
import Derived.Test.YtbjbagocnnffaaaDoorWTab
import Derived.Test.YtbjbagocnnffaaaDoorZStr
import Derived.Test.YtbjbagocnnffaaaDoorPx6
import Derived.Test.YtbjbagocnnffaaaDoorPx9
import Derived.Test.YtbjbagocnnffaaaDoorPx10
import Derived.Test.YtbjbagocnnffaaaDoorPx11
namespace Go.Proofs.YtbjbagocnnffaaaDoor.P
open Go.RowKit Go.Proofs.YtbjbagocnnffaaaDoorW.PrintWords Go.Proofs.YtbjbagocnnffaaaDoorW.PrintLast Go.Proofs.YtbjbagocnnffaaaDoorW.PrintMore
attribute [-simp] Int.tmod_tmod_of_dvd
attribute [local go_sem] max2_int min2_int max_two min_two max_three min_three max_four min_four   -- for this text's walks alone
set_option linter.unusedVariables false
set_option linter.unusedSimpArgs false

/-! ### letterboxlaw15_SectionCase: function 5 -/
/-- the five words -/
def sc_words : List ByteArray := [⟨#[72, 69, 65, 68, 69, 82]⟩, ⟨#[84, 69, 88, 84]⟩, ⟨#[77, 73, 77, 69]⟩, ⟨#[72, 69, 65, 68, 69, 82, 46, 70, 73, 69, 76, 68, 83, 32, 40, 97, 41]⟩, ⟨#[72, 69, 65, 68, 69, 82, 46, 70, 73, 69, 76, 68, 83, 46, 78, 79, 84, 32, 40, 98, 32, 99, 41]⟩]
def sc_word (a0 : Int) : ByteArray := sc_words.getD (a0 % 5).toNat ByteArray.empty
/-- the path's part of the text -/
def sc_pre (l : List Int) : Nat → ByteArray
  | 0 => ⟨#[91]⟩
  | i + 1 => sc_pre l i ++ ((⟨#[49, 50, 51, 52, 53, 54, 55, 56, 57]⟩ : ByteArray).extract (Int.tmod (rd l (i : Int)) 9).toNat (Int.tmod (rd l (i : Int)) 9 + 1).toNat ++ ⟨#[46]⟩)
theorem sc_mem (l : List Int) (i : Nat) (h : i < l.length) : rd l (i : Int) ∈ l := by
  unfold rd
  rw [Int.toNat_natCast, List.getD_eq_getElem?_getD, List.getElem?_eq_getElem h]
  exact List.getElem_mem h
theorem sc_digit (d : Int) (h0 : 0 ≤ d) (h9 : d < 9) : IntKind.u8.wrap (d + 1) = d + 1 ∧ ((⟨#[49, 50, 51, 52, 53, 54, 55, 56, 57]⟩ : ByteArray).extract d.toNat (d + 1).toNat).size = 1 ∧ ∀ w' : World, (Instr.slice 9 (.string ⟨#[49, 50, 51, 52, 53, 54, 55, 56, 57]⟩) (some (.int .u8 d)) (some (.int .u8 (d + 1))) none).run Tryd.prog w' = .ok (.string ((⟨#[49, 50, 51, 52, 53, 54, 55, 56, 57]⟩ : ByteArray).extract d.toNat (d + 1).toNat)) w' := by
  obtain ⟨q, rfl⟩ : ∃ q : Nat, d = q := ⟨d.toNat, by omega⟩
  have hq : q < 9 := by omega
  match q, hq with
  | 0, _ => exact ⟨rfl, rfl, fun _ => rfl⟩
  | 1, _ => exact ⟨rfl, rfl, fun _ => rfl⟩
  | 2, _ => exact ⟨rfl, rfl, fun _ => rfl⟩
  | 3, _ => exact ⟨rfl, rfl, fun _ => rfl⟩
  | 4, _ => exact ⟨rfl, rfl, fun _ => rfl⟩
  | 5, _ => exact ⟨rfl, rfl, fun _ => rfl⟩
  | 6, _ => exact ⟨rfl, rfl, fun _ => rfl⟩
  | 7, _ => exact ⟨rfl, rfl, fun _ => rfl⟩
  | 8, _ => exact ⟨rfl, rfl, fun _ => rfl⟩
theorem sc_pre_size (l : List Int) (i : Nat) (hb : ∀ x ∈ l, 0 ≤ x ∧ x < 256) (hi : i ≤ l.length) : (sc_pre l i).size = 1 + 2 * i := by
  induction i with
  | zero => rfl
  | succ i ih =>
    have h0 := (hb _ (sc_mem l i (by omega))).1
    have h1 : 0 ≤ Int.tmod (rd l (i : Int)) 9 := Int.tmod_nonneg _ h0
    have h2 : Int.tmod (rd l (i : Int)) 9 < 9 := Int.tmod_lt_of_pos _ (by decide)
    unfold sc_pre
    rw [ByteArray.size_append, ByteArray.size_append, ih (by omega), ByteArray.size_extract]
    have h3 : (⟨#[49, 50, 51, 52, 53, 54, 55, 56, 57]⟩ : ByteArray).size = 9 := rfl
    have h4 : (⟨#[46]⟩ : ByteArray).size = 1 := rfl
    rw [h3, h4]
    omega
theorem sc_word_at (a0 : Int) : (#[.string ⟨#[72, 69, 65, 68, 69, 82]⟩, .string ⟨#[84, 69, 88, 84]⟩, .string ⟨#[77, 73, 77, 69]⟩, .string ⟨#[72, 69, 65, 68, 69, 82, 46, 70, 73, 69, 76, 68, 83, 32, 40, 97, 41]⟩, .string ⟨#[72, 69, 65, 68, 69, 82, 46, 70, 73, 69, 76, 68, 83, 46, 78, 79, 84, 32, 40, 98, 32, 99, 41]⟩] : Array Value)[(a0 % 5).toNat]? = some (.string (sc_word a0)) := by
  unfold sc_word
  obtain ⟨q, hq⟩ : ∃ q, (a0 % 5).toNat = q := ⟨_, rfl⟩
  have h5 : q < 5 := by omega
  rw [hq]
  match q, h5 with
  | 0, _ => rfl
  | 1, _ => rfl
  | 2, _ => rfl
  | 3, _ => rfl
  | 4, _ => rfl
theorem sc_word_size (a0 : Int) : (sc_word a0).size ≤ 23 := by
  unfold sc_word
  obtain ⟨q, hq⟩ : ∃ q, (a0 % 5).toNat = q := ⟨_, rfl⟩
  have h5 : q < 5 := by omega
  rw [hq]
  match q, h5 with
  | 0, _ => exact (by decide)
  | 1, _ => exact (by decide)
  | 2, _ => exact (by decide)
  | 3, _ => exact (by decide)
  | 4, _ => exact (by decide)
/-- what the loop over the word's bytes may leave behind i of them -/
def sc_low (l : List Int) (i : Nat) (M : List Int) : Prop :=
  M.length = l.length ∧ ∀ j, j < l.length → rd M (j : Int) = rd l (j : Int) ∨ (j < i ∧ (∀ q, q ≤ j → rd l (q : Int) ≠ 32) ∧ 65 ≤ rd l (j : Int) ∧ rd l (j : Int) ≤ 90 ∧ rd M (j : Int) = rd l (j : Int) + 32)
theorem sc_u8 (z : Int) (h0 : 0 ≤ z) (h1 : z < 256) : IntKind.u8.wrap z = z := by rw [IntKind.wrap_u8]; omega
theorem sc_same {l M : List Int} {i : Nat} (h : sc_low l i M) (j : Nat) (hj : i ≤ j) (hl : j < l.length) : rd M (j : Int) = rd l (j : Int) := by
  rcases h.2 j hl with h1 | ⟨h1, _⟩
  · exact h1
  · omega
theorem sc_keep {l M : List Int} {i : Nat} (h : sc_low l i M) : sc_low l (i + 1) M :=
  ⟨h.1, fun j hj => (h.2 j hj).imp_right fun ⟨a, b⟩ => ⟨by omega, b⟩⟩
theorem sc_store {l M : List Int} {i : Nat} (h : sc_low l i M) (hl : i < l.length) (hs : ∀ q : Nat, q ≤ i → rd l (q : Int) ≠ 32) (h1 : 65 ≤ rd l (i : Int)) (h2 : rd l (i : Int) ≤ 90) : sc_low l (i + 1) (M.set i (rd l (i : Int) + 32)) := by
  refine ⟨by rw [List.length_set]; exact h.1, fun j hj => ?_⟩
  have hM := h.1
  by_cases e : j = i
  · subst e
    refine .inr ⟨by omega, hs, h1, h2, ?_⟩
    unfold rd
    rw [Int.toNat_natCast, List.getD_eq_getElem?_getD, List.getElem?_set_self (by omega)]
    rfl
  · have hr : rd (M.set i (rd l (i : Int) + 32)) (j : Int) = rd M (j : Int) := by
      generalize rd l (i : Int) + 32 = z
      unfold rd
      rw [Int.toNat_natCast, List.getD_eq_getElem?_getD, List.getD_eq_getElem?_getD, List.getElem?_set_ne (fun x => e x.symm)]
    rw [hr]
    exact (h.2 j hj).imp_right fun ⟨a, b⟩ => ⟨by omega, b⟩
theorem bytesOf_byte (s : ByteArray) (i : Nat) (h : i < (bytesOf s).length) : 0 ≤ rd (bytesOf s) (i : Int) ∧ rd (bytesOf s) (i : Int) < 256 := by
  have h' : i < s.data.toList.length := by simpa [bytesOf] using h
  have e : rd (bytesOf s) (i : Int) = ((s.data.toList[i]).toNat : Int) := by
    unfold rd
    rw [Int.toNat_natCast, List.getD_eq_getElem?_getD]
    simp [bytesOf, List.getElem?_eq_getElem h']
  rw [e]
  have := (s.data.toList[i]).toNat_lt
  omega
/-- what the law asks of a word M in the place of its own -/
def sc_one (k : Nat) (s wd : ByteArray) (n : Nat) (M : List Int) : Prop :=
  ∃ (p : List Int) (x : Int) (ns : List ByteArray) (y : Bool) (b c : Int) (p' : List Int) (x' : Int) (ns' : List ByteArray) (y' : Bool) (b' c' : Int),
    section_Parse.f k ((s ++ strOfNums M) ++ ⟨#[93]⟩) = some (p, x, ns, y, b, c, 0) ∧ section_Parse.f k ((s ++ wd) ++ ⟨#[93]⟩) = some (p', x', ns', y', b', c', 0) ∧
    p.length = n ∧ letterboxref15_Same.f k p x ns y b c p' x' ns' y' b' c' = some true
def sc_bad (k : Nat) (s : ByteArray) : Prop := ∃ (p : List Int) (x : Int) (ns : List ByteArray) (y : Bool) (b c : Int), section_Parse.f k s = some (p, x, ns, y, b, c, 50)
def sc_all (k : Nat) (s wd : ByteArray) (n : Nat) : Prop :=
  (∀ M, sc_low (bytesOf wd) (bytesOf wd).length M → sc_one k s wd n M) ∧ sc_bad k (((s ++ ⟨#[88]⟩) ++ wd) ++ ⟨#[93]⟩) ∧ sc_bad k (s ++ wd) ∧ sc_bad k ((s ++ wd) ++ ⟨#[93, 120]⟩)
open Classical in
/-- the law, for the answer true alone -/
noncomputable def letterboxlaw15_SectionCase.f (k : Nat) (a0 : Int) (a1 : Int) (l2 : List Int) : Option Bool :=
  if 60 ≤ k ∧ 0 ≤ a0 ∧ a0 < 256 ∧ 0 ≤ a1 ∧ a1 < 4294967296 ∧ (∀ x ∈ l2, 0 ≤ x ∧ x < 256) ∧ (l2.length = 0 ∨ 10 < l2.length ∨ sc_all k (sc_pre l2 l2.length) (sc_word a0) l2.length) then some true else none
def letterboxlaw15_SectionCase.T11 : Bool × List (List Nat × List Nat) := (true, [([], []), ([], []), ([], []), ([1, 2], [1, 2]), ([3], [3]), ([4], [4]), ([], []), ([], []), ([6, 7], [6, 7]), ([8], [8]), ([9], [9]), ([10], [10]), ([5, 11], [5, 11]), ([12], [12]), ([0, 13], [0, 13]), ([14, 0, 1, 2, 3, 4, 5, 6, 7, 8, 9, 10, 11, 12, 13, 14], [0, 14])])
def letterboxlaw15_SectionCase.B11 : List Nat := [0, 0, 0, 6, 14, 30, 0, 0, 192, 448, 960, 1984, 4094, 8190, 16383, 32767]
theorem letterboxlaw15_SectionCase.tab11 : rtab .any (opsOf Tryd.f5 11) = letterboxlaw15_SectionCase.T11 := by kernel_rfl
theorem letterboxlaw15_SectionCase.bits11 : waitsOk letterboxlaw15_SectionCase.T11.2 letterboxlaw15_SectionCase.B11 = true := by kernel_rfl
def letterboxlaw15_SectionCase.T26 : Bool × List (List Nat × List Nat) := (true, [([], []), ([0], [0]), ([1], [1]), ([2], [2]), ([3, 2], [2, 3]), ([2, 4], [2, 4]), ([5, 2], [5]), ([6], [6]), ([7, 6, 6], [6, 7]), ([6], [6]), ([9, 8, 6], [6, 9]), ([8, 10, 10, 6], [6, 8, 10]), ([6, 11], [6, 11]), ([12, 11], [12]), ([13], [13]), ([14, 13], [13, 14]), ([15, 13], [13, 15]), ([13], [13]), ([17, 13], [13, 17]), ([16, 18, 13], [13, 16, 18]), ([13, 19], [13, 19]), ([20, 13], [20]), ([21], [21]), ([22, 21], [21, 22]), ([21, 23], [21, 23]), ([24, 21], [24]), ([25], [25]), ([26, 25], [25, 26]), ([25, 27], [25, 27]), ([28, 25], [28]), ([29], [29]), ([30, 29], [29, 30]), ([29, 31], [29, 31]), ([32, 29, 0, 1, 2, 3, 4, 5, 6, 7, 8, 9, 10, 11, 12, 13, 14, 15, 16, 17, 18, 19, 20, 21, 22, 23, 24, 25, 26, 27, 28, 29, 30, 31, 32], [32])])
def letterboxlaw15_SectionCase.B26 : List Nat := [0, 1, 3, 7, 15, 31, 63, 127, 255, 127, 1023, 2047, 4095, 8191, 16383, 32767, 65535, 16383, 147455, 524287, 1048575, 2097151, 4194303, 8388607, 16777215, 33554431, 67108863, 134217727, 268435455, 536870911, 1073741823, 2147483647, 4294967295, 8589934591]
theorem letterboxlaw15_SectionCase.tab26 : rtab .any (opsOf Tryd.f5 26) = letterboxlaw15_SectionCase.T26 := by kernel_rfl
theorem letterboxlaw15_SectionCase.bits26 : waitsOk letterboxlaw15_SectionCase.T26.2 letterboxlaw15_SectionCase.B26 = true := by kernel_rfl
set_option maxHeartbeats 8000000 in
set_option maxRecDepth 100000 in
theorem letterboxlaw15_SectionCase.calls (k : Nat) (a0 a1 : Int) (A2 : Option Addr) (c2 : Nat) (l2 : List Int) (r : Bool) (w : World) (hr2 : Kd.C (Kd.int .u8) w A2 l2.length l2) (hc2 : l2.length ≤ c2) (h : letterboxlaw15_SectionCase.f k a0 a1 l2 = some r) (hL0 : sec_Words w := by first | exact hL0 | exact sec_Words.below hL0 (by repeat (first | (with_reducible first | exact HB.out | apply below_alloc | apply pw_below_drewN | apply below_drew1 | refine below_set ?_ (Aside0.out (by assumption))) | exact HB.out))) :
    Calls Tryd.prog 5 #[.int .u8 a0, .int .u32 a1, .slice A2 l2.length c2] w fun e w' => e = .returned (.bool r) ∧ Below w.heap.size w w' := by
  unfold letterboxlaw15_SectionCase.f at h
  split at h
  case isFalse => cases h
  rename_i hc
  obtain rfl := Option.some.inj h
  clear h
  obtain ⟨hk, g0, g1, g2, g3, hb, hc⟩ := hc
  have HL := Aside0.mk hL0
  have HR2 := Aside0.mk hr2
  have HC2 := Aside0.mk hc2
  have HBY := Aside0.mk hb
  have HALL := Aside0.mk hc
  clear hL0 hr2 hc2 hb hc
  have hA : letterboxlaw15_awake.f k = some true := by unfold letterboxlaw15_awake.f; rw [if_pos hk]
  go_enter Tryd.func5, Tryd.ntmps5
  go_wp2_with fail
  refine (letterboxlaw15_awake.calls k true _ hA HL.out).mono ?_
  rintro e w1 ⟨rfl, b1⟩
  have HB1 := Aside0.mk b1
  clear b1 hA
  by_cases h0 : l2.length = 0
  · have n0 : decide ((l2.length : Int) = 0) = true := decide_eq_true (by omega)
    have n1 : ((l2.length : Int) == 0) = true := beq_iff_eq.2 (by omega)
    go_wp2
    go_ret
    exact ⟨rfl, HB1.out⟩
  have n0 : decide ((l2.length : Int) = 0) = false := decide_eq_false (by omega)
  have n1 : ((l2.length : Int) == 0) = false := beq_eq_false_iff_ne.2 (by omega)
  by_cases h10 : 10 < l2.length
  · have n2 : decide ((10 : Int) < (l2.length : Int)) = true := decide_eq_true (by omega)
    go_wp2
    go_ret
    exact ⟨rfl, HB1.out⟩
  have n2 : decide ((10 : Int) < (l2.length : Int)) = false := decide_eq_false (by omega)
  have H1 := Aside0.mk ((HALL.out.resolve_left h0).resolve_left h10)
  clear HALL
  have hix := sc_word_at a0
  obtain ⟨wd, hwd⟩ : ∃ wd, sc_word a0 = wd := ⟨_, rfl⟩
  have hws := sc_word_size a0
  rw [hwd] at hix H1 hws
  have hw23 := Aside0.mk hws
  clear hws
  go_wp2_with fail
  generalize hX : World.alloc w1 _ = X
  have HBX := Aside0.mk (show Below w.heap.size w X from by rw [← hX]; exact below_alloc HB1.out _)
  clear hX hix
  go_loopw [9, 10] (fun v9 v10 wr => ∃ i : Nat, i ≤ l2.length ∧ v9 = .string (sc_pre l2 i) ∧ v10 = .int .i64 (i : Int) ∧ Aside0 (Below w.heap.size w wr)) (fun _ v10 _ => l2.length - (intOf v10).toNat)
  case atStart => exact ⟨0, Nat.zero_le _, rfl, rfl, HBX⟩
  case round =>
    obtain ⟨i, hi, rfl, rfl, HBi⟩ := hrel
    by_cases hlt : i < l2.length
    · have m0 : decide ((i : Int) < (l2.length : Int)) = true := decide_eq_true (by omega)
      have p0 : 0 ≤ (i : Int) := by omega
      have q0 : (i : Int) < (l2.length : Int) := by omega
      obtain ⟨ad, ead, hx⟩ := Kd.at_int HR2.out (i : Int) p0 q0
      cases ead
      replace hx := (HBi.out.cell (World.block_lt_of_cell? w _ hx)).trans hx
      replace p0 := eq_true p0
      replace q0 := eq_true q0
      go_wp2_with fail
      have HB2 := Aside0.mk (below_drew1 HBi.out)
      clear HBi
      have hbc := HBY.out (rd l2 (i : Int)) (sc_mem l2 i hlt)
      obtain ⟨c, hce⟩ : ∃ c, rd l2 (i : Int) = c := ⟨_, rfl⟩
      have hpre : sc_pre l2 (i + 1) = sc_pre l2 i ++ ((⟨#[49, 50, 51, 52, 53, 54, 55, 56, 57]⟩ : ByteArray).extract (Int.tmod c 9).toNat (Int.tmod c 9 + 1).toNat ++ ⟨#[46]⟩) := by rw [← hce]; rfl
      rw [hce, Int.toNat_natCast] at hx
      rw [hce] at hbc
      have HPRE := Aside0.mk hpre
      clear hpre hce
      obtain ⟨s, hs⟩ : ∃ s, sc_pre l2 i = s := ⟨_, rfl⟩
      have hss := sc_pre_size l2 i HBY.out hi
      obtain ⟨hd1, hd2, hd3⟩ := sc_digit (Int.tmod c 9) (Int.tmod_nonneg _ hbc.1) (Int.tmod_lt_of_pos _ (by decide))
      rw [hs] at hss HPRE ⊢
      have hz1 : (9223372036854775807 < 1 + 2 * i + 2) = False := eq_false (by omega)
      refine start_ (n := 16) (S := fun w' => w'.cell? (ad.add i) = some (.int .u8 c)) (ds := []) #[false, false, false, false, false, false, false, false, false, false, false, false, false, false, false, false] (by kernel_rfl) rfl rfl hx (fun hHeld => ?_)
      refine with_tabW letterboxlaw15_SectionCase.tab11 letterboxlaw15_SectionCase.bits11 (fun HT_ HW_ => ?_)
      generalize World.drew _ = wq at HB2 hHeld ⊢
      refine pure_ (i := 0) (N := some 46) (v := ?_) (a' := ?_) #[true, false, false, false, false, false, false, false, false, false, false, false, false, false, false, false] rfl rfl (any_of HT_.out (by kernel_rfl)) (fun _ _ _ h => h) (Or.inl ⟨by rfl, ?_⟩) ?_ ?_
      rotate_left
      · intro w'
        go_simp
        with_reducible rfl
      rotate_left
      · simp only [Act.put, List.setIfInBounds_toArray, List.set_cons_zero, List.set_cons_succ, i64_w, i32_w]
        rfl
      refine pure_ (i := 1) (N := some 47) (v := ?_) (a' := ?_) #[true, true, false, false, false, false, false, false, false, false, false, false, false, false, false, false] rfl rfl (any_of HT_.out (by kernel_rfl)) (fun _ _ _ h => h) (Or.inl ⟨by rfl, ?_⟩) ?_ ?_
      rotate_left
      · intro w'
        go_simp
        with_reducible rfl
      rotate_left
      · simp only [Act.put, List.setIfInBounds_toArray, List.set_cons_zero, List.set_cons_succ, i64_w, i32_w]
        rfl
      refine pure_ (i := 2) (N := some 48) (v := ?_) (a' := ?_) #[true, true, true, false, false, false, false, false, false, false, false, false, false, false, false, false] rfl rfl (any_of HT_.out (by kernel_rfl)) (fun _ _ _ h => h) (Or.inl ⟨by rfl, ?_⟩) ?_ ?_
      rotate_left
      · intro w'
        go_simp
        with_reducible rfl
      rotate_left
      · simp only [Act.put, List.setIfInBounds_toArray, List.set_cons_zero, List.set_cons_succ, i64_w, i32_w]
        rfl
      refine pure_ (i := 3) (N := some 49) (v := ?_) (a' := ?_) #[true, true, true, true, false, false, false, false, false, false, false, false, false, false, false, false] rfl rfl (any_of HT_.out (by kernel_rfl)) (fun _ _ _ h => h) (Or.inl ⟨by rfl, ?_⟩) ?_ ?_
      rotate_left
      · intro w'
        go_simp
        with_reducible rfl
      rotate_left
      · simp only [Act.put, List.setIfInBounds_toArray, List.set_cons_zero, List.set_cons_succ, i64_w, i32_w]
        rfl
      refine take_ (i := 4) (N := some 50) (v := ?_) (a' := ?_) #[true, true, true, true, true, false, false, false, false, false, false, false, false, false, false, false] rfl rfl (take_ofW HT_.out HW_.out (by kernel_rfl)) (fun _ _ _ h => h) (Or.inl ⟨by rfl, ?_⟩) hHeld ?_ ?_
      rotate_left
      · intro w' s0
        go_simp
        with_reducible rfl
      rotate_left
      · simp only [Act.put, List.setIfInBounds_toArray, List.set_cons_zero, List.set_cons_succ, i64_w, i32_w]
        rfl
      refine pure_ (i := 5) (N := some 51) (v := ?_) (a' := ?_) #[true, true, true, true, true, true, false, false, false, false, false, false, false, false, false, false] rfl rfl (any_of HT_.out (by kernel_rfl)) (fun _ _ _ h => h) (Or.inl ⟨by rfl, ?_⟩) ?_ ?_
      rotate_left
      · intro w'
        go_simp
        with_reducible rfl
      rotate_left
      · simp only [Act.put, List.setIfInBounds_toArray, List.set_cons_zero, List.set_cons_succ, i64_w, i32_w]
        rfl
      refine pure_ (i := 6) (N := some 52) (v := ?_) (a' := ?_) #[true, true, true, true, true, true, true, false, false, false, false, false, false, false, false, false] rfl rfl (any_of HT_.out (by kernel_rfl)) (fun _ _ _ h => h) (Or.inl ⟨by rfl, ?_⟩) ?_ ?_
      rotate_left
      · intro w'
        go_simp
        with_reducible rfl
      rotate_left
      · simp only [Act.put, List.setIfInBounds_toArray, List.set_cons_zero, List.set_cons_succ, i64_w, i32_w]
        rfl
      refine pure_ (i := 7) (N := some 53) (v := ?_) (a' := ?_) #[true, true, true, true, true, true, true, true, false, false, false, false, false, false, false, false] rfl rfl (any_of HT_.out (by kernel_rfl)) (fun _ _ _ h => h) (Or.inl ⟨by rfl, ?_⟩) ?_ ?_
      rotate_left
      · intro w'
        go_simp
        with_reducible rfl
      rotate_left
      · simp only [Act.put, List.setIfInBounds_toArray, List.set_cons_zero, List.set_cons_succ, i64_w, i32_w]
        rfl
      refine pure_ (i := 8) (N := some 54) (v := ?_) (a' := ?_) #[true, true, true, true, true, true, true, true, true, false, false, false, false, false, false, false] rfl rfl (any_of HT_.out (by kernel_rfl)) (fun _ _ _ h => h) (Or.inl ⟨by rfl, ?_⟩) ?_ ?_
      rotate_left
      · intro w'
        go_simp
        with_reducible rfl
      rotate_left
      · simp only [Act.put, List.setIfInBounds_toArray, List.set_cons_zero, List.set_cons_succ, i64_w, i32_w]
        rfl
      refine take_ (i := 9) (N := some 55) (v := ?_) (a' := ?_) #[true, true, true, true, true, true, true, true, true, true, false, false, false, false, false, false] rfl rfl (take_ofW HT_.out HW_.out (by kernel_rfl)) (fun _ _ _ h => h) (Or.inl ⟨by rfl, ?_⟩) hHeld ?_ ?_
      rotate_left
      · intro w' s0
        go_simp
        with_reducible rfl
      rotate_left
      · simp only [Act.put, List.setIfInBounds_toArray, List.set_cons_zero, List.set_cons_succ, i64_w, i32_w]
        rfl
      refine pure_ (i := 10) (N := some 56) (v := ?_) (a' := ?_) #[true, true, true, true, true, true, true, true, true, true, true, false, false, false, false, false] rfl rfl (any_of HT_.out (by kernel_rfl)) (fun _ _ _ h => h) (Or.inl ⟨by rfl, ?_⟩) ?_ ?_
      rotate_left
      · intro w'
        go_simp
        with_reducible rfl
      rotate_left
      · simp only [Act.put, List.setIfInBounds_toArray, List.set_cons_zero, List.set_cons_succ, i64_w, i32_w]
        rfl
      refine pure_ (i := 11) (N := some 57) (v := ?_) (a' := ?_) #[true, true, true, true, true, true, true, true, true, true, true, true, false, false, false, false] rfl rfl (any_of HT_.out (by kernel_rfl)) (fun _ _ _ h => h) (Or.inl ⟨by rfl, ?_⟩) ?_ ?_
      rotate_left
      · intro w'
        go_simp
        with_reducible rfl
      rotate_left
      · simp only [Act.put, List.setIfInBounds_toArray, List.set_cons_zero, List.set_cons_succ, i64_w, i32_w]
        rfl
      refine pure_ (i := 12) (N := some 58) (v := ?_) (a' := ?_) #[true, true, true, true, true, true, true, true, true, true, true, true, true, false, false, false] rfl rfl (any_of HT_.out (by kernel_rfl)) (fun _ _ _ h => h) (Or.inl ⟨by rfl, ?_⟩) ?_ ?_
      rotate_left
      · intro w'
        go_simp
        with_reducible rfl
      rotate_left
      · simp only [Act.put, List.setIfInBounds_toArray, List.set_cons_zero, List.set_cons_succ, i64_w, i32_w]
        rfl
      refine pure_ (i := 13) (N := some 59) (v := ?_) (a' := ?_) #[true, true, true, true, true, true, true, true, true, true, true, true, true, true, false, false] rfl rfl (any_of HT_.out (by kernel_rfl)) (fun _ _ _ h => h) (Or.inl ⟨by rfl, ?_⟩) ?_ ?_
      rotate_left
      · intro w'
        go_simp
        with_reducible rfl
      rotate_left
      · simp only [Act.put, List.setIfInBounds_toArray, List.set_cons_zero, List.set_cons_succ, i64_w, i32_w]
        rfl
      refine pure_ (i := 14) (N := some 60) (v := ?_) (a' := ?_) #[true, true, true, true, true, true, true, true, true, true, true, true, true, true, true, false] rfl rfl (any_of HT_.out (by kernel_rfl)) (fun _ _ _ h => h) (Or.inl ⟨by rfl, ?_⟩) ?_ ?_
      rotate_left
      · intro w'
        go_simp
        with_reducible rfl
      rotate_left
      · simp only [Act.put, List.setIfInBounds_toArray, List.set_cons_zero, List.set_cons_succ, i64_w, i32_w]
        rfl
      refine pure_ (i := 15) (N := some 9) (v := ?_) (a' := ?_) #[true, true, true, true, true, true, true, true, true, true, true, true, true, true, true, true] rfl rfl (any_of HT_.out (by kernel_rfl)) (fun _ _ _ h => h) (Or.inl ⟨by rfl, ?_⟩) ?_ ?_
      rotate_left
      · intro w'
        go_simp
        with_reducible rfl
      rotate_left
      · simp only [Act.put, List.setIfInBounds_toArray, List.set_cons_zero, List.set_cons_succ, i64_w, i32_w]
        rfl
      refine done_ (done_of HT_.out (by kernel_rfl)) ?_
      try go_wp2
      try go_roundw
      case measure => simp [intOf]; omega
      case rel => exact ⟨i + 1, by omega, by rw [HPRE.out], by go_num, HB2⟩
    obtain rfl : i = l2.length := by omega
    have m0 : decide ((l2.length : Int) < (l2.length : Int)) = false := decide_eq_false (by omega)
    obtain ⟨s, hs⟩ : ∃ s, sc_pre l2 l2.length = s := ⟨_, rfl⟩
    have hss := sc_pre_size l2 l2.length HBY.out (Nat.le_refl _)
    rw [hs] at hss H1 ⊢
    clear hs
    have hcv := print_bytes (P := Tryd.prog) 9 42 5 Tryd.underlying9 Tryd.underlying42 Tryd.underlying5 wd wr
    have hR0 := Mk.start 5 wr wd (by have := hw23.out; omega)
    have hbB := bytes_below (Below.refl wr.heap.size wr) (Nat.le_refl _) 5 wd
    have HB3 := Aside0.mk (HBi.out.trans (hbB.mono HBi.out.size))
    have HWS := Aside0.mk HBi.out.size
    generalize hg : wr.heap.size = g at hcv hR0 HWS
    generalize hX : Lib.bytesWorld wr 5 wd = X at hcv hR0 HB3
    generalize hcap : grownCap wr wd.size 0 5 = cp at hcv
    have hcp : wd.size ≤ cp := by rw [← hcap]; exact grownCap_ge _ _ _ _
    have hRX := Aside0.mk hR0
    have hlb := bytesOf_length wd
    have hbb := bytesOf_byte wd
    generalize hle : bytesOf wd = l at hRX hlb hbb
    have HLE := Aside0.mk hle
    clear hle
    clear hbB hR0 hX hcap HBi
    go_wp2_with fail
    go_loopw [12, 13] (fun v12 v13 wq => ∃ (i : Nat) (M : List Int) (u : Bool), i ≤ wd.size ∧ v12 = .bool u ∧ v13 = .int .i64 (i : Int) ∧ Aside0 (sc_low l i M) ∧ Aside0 (u = true → ∀ q : Nat, q < i → rd l (q : Int) ≠ 32) ∧ Aside0 (Mk.row 5 g wq M) ∧ Aside0 (Below w.heap.size w wq)) (fun _ v13 _ => wd.size - (intOf v13).toNat)
    case atStart => exact ⟨0, l, true, Nat.zero_le _, rfl, rfl, ⟨⟨rfl, fun j _ => .inl rfl⟩⟩, ⟨fun _ q hq => absurd hq (Nat.not_lt_zero q)⟩, hRX, HB3⟩
    case round =>
      obtain ⟨i, M, u, hi2, rfl, rfl, HLO, HU, HR, HB⟩ := hrel
      by_cases hlt : i < wd.size
      · have k0 : decide ((i : Int) < (wd.size : Int)) = true := decide_eq_true (by omega)
        have hml := HLO.out.1
        obtain ⟨hc1, hf1⟩ := Mk.cell HR.out i (by omega)
        have hrd := sc_same HLO.out i (Nat.le_refl _) (by omega)
        rw [hrd] at hc1
        have hcb := hbb i (by omega)
        have HS0 := Aside0.mk (sc_keep HLO.out)
        obtain ⟨c, hce⟩ : ∃ c, rd l (i : Int) = c := ⟨_, rfl⟩
        rw [hce] at hc1 hcb
        have HLT := Aside0.mk (Mk.lt HR.out)
        have HLQ := Aside0.mk hlt
        have hi23 : i < 23 := by have := hw23.out; omega
        by_cases h32 : c = 32
        · have b0 : ((c : Int) == 32) = true := beq_iff_eq.2 h32
          go_wp2_with fail
          have hw := hw23.out
          have hlq := HLQ.out
          go_roundw
          case measure => simp [intOf]; omega
          case rel => exact ⟨i + 1, M, false, by omega, rfl, by go_num, HS0, ⟨fun h => absurd h (by decide)⟩, HR, HB⟩
        · have b0 : ((c : Int) == 32) = false := beq_eq_false_iff_ne.2 h32
          cases u with
          | false =>
            go_wp2_with fail
            have hw := hw23.out
            have hlq := HLQ.out
            go_roundw
            case measure => simp [intOf]; omega
            case rel => exact ⟨i + 1, M, false, by omega, rfl, by go_num, HS0, ⟨fun h => absurd h (by decide)⟩, HR, HB⟩
          | true =>
            have HU2 := Aside0.mk (show ∀ q : Nat, q < i + 1 → rd l (q : Int) ≠ 32 from fun q hq => by
              by_cases e : q = i
              · subst e; rw [hce]; exact h32
              · exact HU.out rfl q (by omega))
            by_cases hup : 65 ≤ c ∧ c ≤ 90
            · obtain ⟨h65, h90⟩ := hup
              have b1 : decide ((65 : Int) ≤ c) = true := decide_eq_true h65
              have b2 : decide (c ≤ (90 : Int)) = true := decide_eq_true h90
              have hwr : IntKind.u8.wrap (c + 32) = c + 32 := sc_u8 (c + 32) (by omega) (by omega)
              have HST := Aside0.mk (sc_store HLO.out (i := i) (by omega) (fun q hq => HU2.out q (by omega)) (by rw [hce]; exact h65) (by rw [hce]; exact h90))
              rw [hce] at HST
              have HRS := Aside0.mk (Mk.set HR.out i (c + 32) (by omega))
              have HBS := Aside0.mk (HB.out.setCell (p := ⟨g, i, none⟩) HWS.out (.int .u8 (c + 32)))
              go_wp2_with fail
              all_goals have hw := hw23.out
              all_goals have hlq := HLQ.out
              all_goals go_roundw
              all_goals first | (simp [intOf]; omega; done) | exact ⟨i + 1, M, true, by omega, rfl, by go_num, HS0, ⟨fun _ => HU2.out⟩, HR, HB⟩ | exact ⟨i + 1, _, true, by omega, rfl, by go_num, HST, ⟨fun _ => HU2.out⟩, HRS, HBS⟩
            · have hno : (decide ((65 : Int) ≤ c) && decide (c ≤ (90 : Int))) = false := by
                by_cases h65 : 65 ≤ c
                · rw [decide_eq_true h65, decide_eq_false (by omega)]; rfl
                · rw [decide_eq_false h65]; rfl
              go_wp2_with fail
              all_goals have hw := hw23.out
              all_goals have hlq := HLQ.out
              all_goals go_roundw
              all_goals first | (simp [intOf]; omega; done) | exact ⟨i + 1, M, true, by omega, rfl, by go_num, HS0, ⟨fun _ => HU2.out⟩, HR, HB⟩
      · obtain rfl : i = wd.size := by omega
        have k0 : decide ((wd.size : Int) < (wd.size : Int)) = false := decide_eq_false (by omega)
        have hml := HLO.out.1
        obtain ⟨hone, ⟨p3, x3, ns3, y3, b3, d3, e3⟩, ⟨p4, x4, ns4, y4, b4, d4, e4⟩, ⟨p5, x5, ns5, y5, b5, d5, e5⟩⟩ := H1.out
        obtain ⟨p1, x1, ns1, y1, b1, d1, p2, x2, ns2, y2, b2, d2, e1, e2, hpn, hsm⟩ := hone M (by rw [HLE.out, hlb]; exact HLO.out)
        have hw := hw23.out
        have hrds := Mk.reads HR.out (by omega) 0 (by omega)
        rw [List.drop_zero, Nat.sub_zero, hml, hlb] at hrds
        have hSz : (strOfNums M).size = wd.size := by rw [← hlb, ← hml]; first | exact strOfNums_size M | simp [strOfNums]
        obtain ⟨Z, hZ⟩ : ∃ Z, strOfNums M = Z := ⟨_, rfl⟩
        rw [hZ] at hSz e1
        have hcv2 : (convert 42 9 (.slice (some ⟨g, 0, none⟩) wd.size cp)).run Tryd.prog wr = .ok (.string Z) wr := by
          rw [← hZ]
          exact Kd.C_string (P := Tryd.prog) Tryd.underlying42 Tryd.underlying5 Tryd.underlying9 hrds
        have K1 := Aside0.mk e1
        have K2 := Aside0.mk e2
        have K3 := Aside0.mk e3
        have K4 := Aside0.mk e4
        have K5 := Aside0.mk e5
        have KS := Aside0.mk hsm
        have KP := Aside0.mk hpn
        clear e1 e2 e3 e4 e5 hsm hpn hone hrds hml H1 HLO HU hZ hcv
        go_wp2_with fail
        refine (section_Parse.calls k _ _ _ _ _ _ _ _ _ K1.out (HL.out.below HB.out)).mono ?_
        rintro e w2 ⟨v0, v2, rfl, R0, R2, B2⟩
        obtain ⟨A0, c0, rfl⟩ := Kd.R_slice R0
        obtain ⟨A1, c1, rfl⟩ := Kd.R_slice R2
        have HR0 := Aside0.mk R0
        have HR1 := Aside0.mk R2
        have HB4 := Aside0.mk (HB.out.trans (B2.mono HB.out.size))
        clear R0 R2 B2
        go_wp2_with fail
        generalize hg1 : w2.heap.size = g1
        generalize hWa : World.alloc w2 _ = Wa
        have D1 : Wa.heap[g1]? = some (.cells #[.slice A0 p1.length c0, .int .i64 x1, .slice A1 ns1.length c1, .bool y1, .int .i64 b1, .int .i64 d1] 26 (0, 0)) := by subst hWa hg1; exact blk_new _ _
        have B1 : Below w.heap.size w Wa := by subst hWa; exact below_alloc HB4.out _
        have R0 : Kd.R (Kd.int .i64) 3 Wa w.heap.size (fun _ => True) (.slice A0 p1.length c0) p1 := by subst hWa; exact Kd.R_lower (Kd.R_alloc HR0.out _) (below_size HB.out)
        have R1 : Kd.R Kd.string 9 Wa w.heap.size (fun _ => True) (.slice A1 ns1.length c1) ns1 := by subst hWa; exact Kd.R_lower (Kd.R_alloc HR1.out _) (below_size HB.out)
        clear hWa hg1 HR0 HR1 HB4
        refine (section_Parse.calls k _ _ _ _ _ _ _ _ _ K2.out (HL.out.below B1)).mono ?_
        rintro e w3 ⟨v0, v2, rfl, Q0, Q1, B2⟩
        obtain ⟨E0, f0, rfl⟩ := Kd.R_slice Q0
        obtain ⟨E1, f1, rfl⟩ := Kd.R_slice Q1
        have HQ0 := Aside0.mk (Kd.R_lower Q0 (below_size B1))
        have HQ1 := Aside0.mk (Kd.R_lower Q1 (below_size B1))
        have HB5 := Aside0.mk (B1.trans (B2.mono B1.size))
        have HD1 := Aside0.mk (blk_below D1 B2)
        have HR0 := Aside0.mk (Kd.R_below R0 B2)
        have HR1 := Aside0.mk (Kd.R_below R1 B2)
        clear D1 R0 R1 Q0 Q1 B1 B2
        go_wp2_with fail
        generalize hg2 : w3.heap.size = g2
        generalize hWb : World.alloc w3 _ = Wb
        have hb := below_alloc (Below.refl w3.heap.size w3) (.cells #[.slice E0 p2.length f0, .int .i64 x2, .slice E1 ns2.length f1, .bool y2, .int .i64 b2, .int .i64 d2] 26)
        have D2 := Aside0.mk (show Wb.heap[g2]? = some (.cells #[.slice E0 p2.length f0, .int .i64 x2, .slice E1 ns2.length f1, .bool y2, .int .i64 b2, .int .i64 d2] 26 (0, 0)) by subst hWb hg2; exact blk_new _ _)
        have D1 := Aside0.mk (show Wb.heap[g1]? = some (.cells #[.slice A0 p1.length c0, .int .i64 x1, .slice A1 ns1.length c1, .bool y1, .int .i64 b1, .int .i64 d1] 26 (0, 0)) by subst hWb; exact blk_below HD1.out hb)
        have B1 := Aside0.mk (show Below w.heap.size w Wb by subst hWb; exact below_alloc HB5.out _)
        have R0 := Aside0.mk (show Kd.R (Kd.int .i64) 3 Wb w.heap.size (fun _ => True) (.slice A0 p1.length c0) p1 by subst hWb; exact Kd.R_alloc HR0.out _)
        have R1 := Aside0.mk (show Kd.R Kd.string 9 Wb w.heap.size (fun _ => True) (.slice A1 ns1.length c1) ns1 by subst hWb; exact Kd.R_alloc HR1.out _)
        have Q0 := Aside0.mk (show Kd.R (Kd.int .i64) 3 Wb w.heap.size (fun _ => True) (.slice E0 p2.length f0) p2 by subst hWb; exact Kd.R_alloc HQ0.out _)
        have Q1 := Aside0.mk (show Kd.R Kd.string 9 Wb w.heap.size (fun _ => True) (.slice E1 ns2.length f1) ns2 by subst hWb; exact Kd.R_alloc HQ1.out _)
        clear hb hWb hg2 HR0 HR1 HQ0 HQ1 HB5 HD1
        refine (section_Parse.calls k _ _ _ _ _ _ _ _ _ K3.out (HL.out.below B1.out)).mono ?_
        rintro e v3 ⟨z0, z2, rfl, Z0, Z1, b⟩
        obtain ⟨U0, m3, rfl⟩ := Kd.R_slice Z0
        obtain ⟨U1, o3, rfl⟩ := Kd.R_slice Z1
        clear Z0 Z1
        replace D1 := Aside0.mk (blk_below D1.out b)
        replace D2 := Aside0.mk (blk_below D2.out b)
        replace R0 := Aside0.mk (Kd.R_below R0.out b)
        replace R1 := Aside0.mk (Kd.R_below R1.out b)
        replace Q0 := Aside0.mk (Kd.R_below Q0.out b)
        replace Q1 := Aside0.mk (Kd.R_below Q1.out b)
        replace B1 := Aside0.mk (B1.out.trans (b.mono B1.out.size))
        clear b
        go_wp2_with fail
        generalize hW3 : World.alloc v3 _ = W3
        have b : Below v3.heap.size v3 W3 := by subst hW3; exact below_alloc (Below.refl _ _) _
        replace D1 := Aside0.mk (blk_below D1.out b)
        replace D2 := Aside0.mk (blk_below D2.out b)
        replace R0 := Aside0.mk (Kd.R_below R0.out b)
        replace R1 := Aside0.mk (Kd.R_below R1.out b)
        replace Q0 := Aside0.mk (Kd.R_below Q0.out b)
        replace Q1 := Aside0.mk (Kd.R_below Q1.out b)
        replace B1 := Aside0.mk (B1.out.trans (b.mono B1.out.size))
        clear b hW3
        refine (section_Parse.calls k _ _ _ _ _ _ _ _ _ K4.out (HL.out.below B1.out)).mono ?_
        rintro e v4 ⟨z0, z2, rfl, Z0, Z1, b⟩
        obtain ⟨U0, m4, rfl⟩ := Kd.R_slice Z0
        obtain ⟨U1, o4, rfl⟩ := Kd.R_slice Z1
        clear Z0 Z1
        replace D1 := Aside0.mk (blk_below D1.out b)
        replace D2 := Aside0.mk (blk_below D2.out b)
        replace R0 := Aside0.mk (Kd.R_below R0.out b)
        replace R1 := Aside0.mk (Kd.R_below R1.out b)
        replace Q0 := Aside0.mk (Kd.R_below Q0.out b)
        replace Q1 := Aside0.mk (Kd.R_below Q1.out b)
        replace B1 := Aside0.mk (B1.out.trans (b.mono B1.out.size))
        clear b
        go_wp2_with fail
        generalize hW4 : World.alloc v4 _ = W4
        have b : Below v4.heap.size v4 W4 := by subst hW4; exact below_alloc (Below.refl _ _) _
        replace D1 := Aside0.mk (blk_below D1.out b)
        replace D2 := Aside0.mk (blk_below D2.out b)
        replace R0 := Aside0.mk (Kd.R_below R0.out b)
        replace R1 := Aside0.mk (Kd.R_below R1.out b)
        replace Q0 := Aside0.mk (Kd.R_below Q0.out b)
        replace Q1 := Aside0.mk (Kd.R_below Q1.out b)
        replace B1 := Aside0.mk (B1.out.trans (b.mono B1.out.size))
        clear b hW4
        refine (section_Parse.calls k _ _ _ _ _ _ _ _ _ K5.out (HL.out.below B1.out)).mono ?_
        rintro e v5 ⟨z0, z2, rfl, Z0, Z1, b⟩
        obtain ⟨U0, m5, rfl⟩ := Kd.R_slice Z0
        obtain ⟨U1, o5, rfl⟩ := Kd.R_slice Z1
        clear Z0 Z1
        replace D1 := Aside0.mk (blk_below D1.out b)
        replace D2 := Aside0.mk (blk_below D2.out b)
        replace R0 := Aside0.mk (Kd.R_below R0.out b)
        replace R1 := Aside0.mk (Kd.R_below R1.out b)
        replace Q0 := Aside0.mk (Kd.R_below Q0.out b)
        replace Q1 := Aside0.mk (Kd.R_below Q1.out b)
        replace B1 := Aside0.mk (B1.out.trans (b.mono B1.out.size))
        clear b
        go_wp2_with fail
        generalize hW9 : World.alloc v5 _ = W9
        have b : Below v5.heap.size v5 W9 := by subst hW9; exact below_alloc (Below.refl _ _) _
        replace D1 := Aside0.mk (blk_below D1.out b)
        replace D2 := Aside0.mk (blk_below D2.out b)
        replace R0 := Aside0.mk (Kd.R_below R0.out b)
        replace R1 := Aside0.mk (Kd.R_below R1.out b)
        replace Q0 := Aside0.mk (Kd.R_below Q0.out b)
        replace Q1 := Aside0.mk (Kd.R_below Q1.out b)
        replace B1 := Aside0.mk (B1.out.trans (b.mono B1.out.size))
        clear b hW9
        replace D1 := Aside0.mk (blk_drew D1.out)
        replace D2 := Aside0.mk (blk_drew D2.out)
        replace R0 := Aside0.mk (Kd.R_drew R0.out)
        replace R1 := Aside0.mk (Kd.R_drew R1.out)
        replace Q0 := Aside0.mk (Kd.R_drew Q0.out)
        replace Q1 := Aside0.mk (Kd.R_drew Q1.out)
        replace B1 := Aside0.mk (below_drew1 B1.out)
        refine start_ (n := 34) (S := fun w' => w'.cell? ⟨g1, 0, none⟩ = some (.slice A0 p1.length c0) ∧ w'.cell? ⟨g1, 1, none⟩ = some (.int .i64 x1) ∧ w'.cell? ⟨g1, 2, none⟩ = some (.slice A1 ns1.length c1) ∧ w'.cell? ⟨g1, 3, none⟩ = some (.bool y1) ∧ w'.cell? ⟨g1, 4, none⟩ = some (.int .i64 b1) ∧ w'.cell? ⟨g1, 5, none⟩ = some (.int .i64 d1) ∧ w'.cell? ⟨g2, 0, none⟩ = some (.slice E0 p2.length f0) ∧ w'.cell? ⟨g2, 1, none⟩ = some (.int .i64 x2) ∧ w'.cell? ⟨g2, 2, none⟩ = some (.slice E1 ns2.length f1) ∧ w'.cell? ⟨g2, 3, none⟩ = some (.bool y2) ∧ w'.cell? ⟨g2, 4, none⟩ = some (.int .i64 b2) ∧ w'.cell? ⟨g2, 5, none⟩ = some (.int .i64 d2)) (ds := []) #[false, false, false, false, false, false, false, false, false, false, false, false, false, false, false, false, false, false, false, false, false, false, false, false, false, false, false, false, false, false, false, false, false, false] (by kernel_rfl) rfl rfl ⟨(blk_cell D1.out 0).trans rfl, (blk_cell D1.out 1).trans rfl, (blk_cell D1.out 2).trans rfl, (blk_cell D1.out 3).trans rfl, (blk_cell D1.out 4).trans rfl, (blk_cell D1.out 5).trans rfl, (blk_cell D2.out 0).trans rfl, (blk_cell D2.out 1).trans rfl, (blk_cell D2.out 2).trans rfl, (blk_cell D2.out 3).trans rfl, (blk_cell D2.out 4).trans rfl, (blk_cell D2.out 5).trans rfl⟩ (fun hHeld => ?_)
        refine with_tabW letterboxlaw15_SectionCase.tab26 letterboxlaw15_SectionCase.bits26 (fun HT_ HW_ => ?_)
        generalize World.drew _ = wz at D1 D2 R0 R1 Q0 Q1 B1 hHeld ⊢
        refine pure_ (i := 0) (N := some 144) (v := ?_) (a' := ?_) #[true, false, false, false, false, false, false, false, false, false, false, false, false, false, false, false, false, false, false, false, false, false, false, false, false, false, false, false, false, false, false, false, false, false] rfl rfl (any_of HT_.out (by kernel_rfl)) (fun _ _ _ h => h) (Or.inl ⟨by rfl, ?_⟩) ?_ ?_
        rotate_left
        · intro w'
          go_simp
          with_reducible rfl
        rotate_left
        · simp only [Act.put, List.setIfInBounds_toArray, List.set_cons_zero, List.set_cons_succ, i64_w, i32_w]
          rfl
        refine pure_ (i := 1) (N := some 145) (v := ?_) (a' := ?_) #[true, true, false, false, false, false, false, false, false, false, false, false, false, false, false, false, false, false, false, false, false, false, false, false, false, false, false, false, false, false, false, false, false, false] rfl rfl (any_of HT_.out (by kernel_rfl)) (fun _ _ _ h => h) (Or.inl ⟨by rfl, ?_⟩) ?_ ?_
        rotate_left
        · intro w'
          go_simp
          with_reducible rfl
        rotate_left
        · simp only [Act.put, List.setIfInBounds_toArray, List.set_cons_zero, List.set_cons_succ, i64_w, i32_w]
          rfl
        refine pure_ (i := 2) (N := some 146) (v := ?_) (a' := ?_) #[true, true, true, false, false, false, false, false, false, false, false, false, false, false, false, false, false, false, false, false, false, false, false, false, false, false, false, false, false, false, false, false, false, false] rfl rfl (any_of HT_.out (by kernel_rfl)) (fun _ _ _ h => h) (Or.inl ⟨by rfl, ?_⟩) ?_ ?_
        rotate_left
        · intro w'
          go_simp
          with_reducible rfl
        rotate_left
        · simp only [Act.put, List.setIfInBounds_toArray, List.set_cons_zero, List.set_cons_succ, i64_w, i32_w]
          rfl
        refine pure_ (i := 3) (N := some 147) (v := ?_) (a' := ?_) #[true, true, true, true, false, false, false, false, false, false, false, false, false, false, false, false, false, false, false, false, false, false, false, false, false, false, false, false, false, false, false, false, false, false] rfl rfl (any_of HT_.out (by kernel_rfl)) (fun _ _ _ h => h) (Or.inl ⟨by rfl, ?_⟩) ?_ ?_
        rotate_left
        · intro w'
          go_simp
          with_reducible rfl
        rotate_left
        · simp only [Act.put, List.setIfInBounds_toArray, List.set_cons_zero, List.set_cons_succ, i64_w, i32_w]
          rfl
        refine pure_ (i := 4) (N := some 148) (v := ?_) (a' := ?_) #[true, true, true, true, true, false, false, false, false, false, false, false, false, false, false, false, false, false, false, false, false, false, false, false, false, false, false, false, false, false, false, false, false, false] rfl rfl (any_of HT_.out (by kernel_rfl)) (fun _ _ _ h => h) (Or.inl ⟨by rfl, ?_⟩) ?_ ?_
        rotate_left
        · intro w'
          go_simp
          with_reducible rfl
        rotate_left
        · simp only [Act.put, List.setIfInBounds_toArray, List.set_cons_zero, List.set_cons_succ, i64_w, i32_w]
          rfl
        refine pure_ (i := 5) (N := some 149) (v := ?_) (a' := ?_) #[true, true, true, true, true, true, false, false, false, false, false, false, false, false, false, false, false, false, false, false, false, false, false, false, false, false, false, false, false, false, false, false, false, false] rfl rfl (any_of HT_.out (by kernel_rfl)) (fun _ _ _ h => h) (Or.inl ⟨by rfl, ?_⟩) ?_ ?_
        rotate_left
        · intro w'
          go_simp
          with_reducible rfl
        rotate_left
        · simp only [Act.put, List.setIfInBounds_toArray, List.set_cons_zero, List.set_cons_succ, i64_w, i32_w]
          rfl
        refine pure_ (i := 6) (N := some 150) (v := ?_) (a' := ?_) #[true, true, true, true, true, true, true, false, false, false, false, false, false, false, false, false, false, false, false, false, false, false, false, false, false, false, false, false, false, false, false, false, false, false] rfl rfl (any_of HT_.out (by kernel_rfl)) (fun _ _ _ h => h) (Or.inl ⟨by rfl, ?_⟩) ?_ ?_
        rotate_left
        · intro w'
          go_simp
          with_reducible rfl
        rotate_left
        · simp only [Act.put, List.setIfInBounds_toArray, List.set_cons_zero, List.set_cons_succ, i64_w, i32_w]
          rfl
        refine take_ (i := 7) (N := some 151) (v := ?_) (a' := ?_) #[true, true, true, true, true, true, true, true, false, false, false, false, false, false, false, false, false, false, false, false, false, false, false, false, false, false, false, false, false, false, false, false, false, false] rfl rfl (take_ofW HT_.out HW_.out (by kernel_rfl)) (fun _ _ _ h => h) (Or.inl ⟨by rfl, ?_⟩) hHeld ?_ ?_
        rotate_left
        · rintro w' ⟨s0, s1, s2, s3, s4, s5, s6, s7, s8, s9, s10, s11⟩
          go_simp
          with_reducible rfl
        rotate_left
        · simp only [Act.put, List.setIfInBounds_toArray, List.set_cons_zero, List.set_cons_succ, i64_w, i32_w]
          rfl
        refine take_ (i := 9) (N := some 153) (v := ?_) (a' := ?_) #[true, true, true, true, true, true, true, true, false, true, false, false, false, false, false, false, false, false, false, false, false, false, false, false, false, false, false, false, false, false, false, false, false, false] rfl rfl (take_ofW HT_.out HW_.out (by kernel_rfl)) (fun _ _ _ h => h) (Or.inl ⟨by rfl, ?_⟩) hHeld ?_ ?_
        rotate_left
        · rintro w' ⟨s0, s1, s2, s3, s4, s5, s6, s7, s8, s9, s10, s11⟩
          go_simp
          with_reducible rfl
        rotate_left
        · simp only [Act.put, List.setIfInBounds_toArray, List.set_cons_zero, List.set_cons_succ, i64_w, i32_w]
          rfl
        refine one_ (i := 8) (N := some 152) #[true, true, true, true, true, true, true, true, true, true, false, false, false, false, false, false, false, false, false, false, false, false, false, false, false, false, false, false, false, false, false, false, false, false] rfl rfl (one_of HT_.out (by kernel_rfl)) (by decide) (fun K hK => ?_)
        refine goes_ Tryd.func11 (by kernel_rfl) rfl #[.agg #[.slice A0 p1.length c0, .int .i64 x1, .slice A1 ns1.length c1, .bool y1, .int .i64 b1, .int .i64 d1]] (by rfl) rfl rfl qa_ ?_
        refine (letterboxlaw15_specOf.calls _ _ _ p1 x1 _ _ _ ns1 y1 b1 d1 _ _ _ _ _ _ _ (Kd.V_mk (Kd.R_reads' R0.out).2.1 (Kd.F_below (Kd.C_F (Kd.heap_int .i64) (Kd.R_reads' R0.out).2.2) (Below.refl _ _))) (Kd.V_mk (Kd.R_reads' R1.out).2.1 (Kd.F_below (Kd.C_F Kd.heap_string (Kd.R_reads' R1.out).2.2) (Below.refl _ _))) rfl).mono ?_
        rintro e wa ⟨va, vb, rfl, T0, T1, b⟩
        refine ⟨_, rfl, ?_⟩
        obtain ⟨ta, ca, rfl⟩ := Kd.V_slice T0
        obtain ⟨tb, cb, rfl⟩ := Kd.V_slice T1
        replace D1 := Aside0.mk (blk_below D1.out b)
        replace D2 := Aside0.mk (blk_below D2.out b)
        replace R0 := Aside0.mk (Kd.R_below R0.out b)
        replace R1 := Aside0.mk (Kd.R_below R1.out b)
        replace Q0 := Aside0.mk (Kd.R_below Q0.out b)
        replace Q1 := Aside0.mk (Kd.R_below Q1.out b)
        replace B1 := Aside0.mk (B1.out.trans (b.mono B1.out.size))
        clear b
        refine hK.out _ _ ⟨(blk_cell D1.out 0).trans rfl, (blk_cell D1.out 1).trans rfl, (blk_cell D1.out 2).trans rfl, (blk_cell D1.out 3).trans rfl, (blk_cell D1.out 4).trans rfl, (blk_cell D1.out 5).trans rfl, (blk_cell D2.out 0).trans rfl, (blk_cell D2.out 1).trans rfl, (blk_cell D2.out 2).trans rfl, (blk_cell D2.out 3).trans rfl, (blk_cell D2.out 4).trans rfl, (blk_cell D2.out 5).trans rfl⟩ (fun hHeld => ?_)
        clear hK K
        refine norm_ (a' := ?_) ?_ ?_
        rotate_left
        · show Act.put _ (some 152) _ = _
          simp only [Act.put, List.setIfInBounds_toArray, List.set_cons_zero, List.set_cons_succ, i64_w, i32_w]
          rfl
        refine one_ (i := 10) (N := some 154) #[true, true, true, true, true, true, true, true, true, true, true, false, false, false, false, false, false, false, false, false, false, false, false, false, false, false, false, false, false, false, false, false, false, false] rfl rfl (one_of HT_.out (by kernel_rfl)) (by decide) (fun K hK => ?_)
        refine goes_ Tryd.func11 (by kernel_rfl) rfl #[.agg #[.slice E0 p2.length f0, .int .i64 x2, .slice E1 ns2.length f1, .bool y2, .int .i64 b2, .int .i64 d2]] (by rfl) rfl rfl qa_ ?_
        refine (letterboxlaw15_specOf.calls _ _ _ p2 x2 _ _ _ ns2 y2 b2 d2 _ _ _ _ _ _ _ (Kd.V_mk (Kd.R_reads' Q0.out).2.1 (Kd.F_below (Kd.C_F (Kd.heap_int .i64) (Kd.R_reads' Q0.out).2.2) (Below.refl _ _))) (Kd.V_mk (Kd.R_reads' Q1.out).2.1 (Kd.F_below (Kd.C_F Kd.heap_string (Kd.R_reads' Q1.out).2.2) (Below.refl _ _))) rfl).mono ?_
        rintro e wb ⟨vc, vd, rfl, T2, T3, b⟩
        refine ⟨_, rfl, ?_⟩
        obtain ⟨tc, cc, rfl⟩ := Kd.V_slice T2
        obtain ⟨td, cd, rfl⟩ := Kd.V_slice T3
        replace T0 := Kd.V_below T0 b
        replace T1 := Kd.V_below T1 b
        replace D1 := Aside0.mk (blk_below D1.out b)
        replace D2 := Aside0.mk (blk_below D2.out b)
        replace R0 := Aside0.mk (Kd.R_below R0.out b)
        replace R1 := Aside0.mk (Kd.R_below R1.out b)
        replace Q0 := Aside0.mk (Kd.R_below Q0.out b)
        replace Q1 := Aside0.mk (Kd.R_below Q1.out b)
        replace B1 := Aside0.mk (B1.out.trans (b.mono B1.out.size))
        clear b
        refine hK.out _ _ ⟨(blk_cell D1.out 0).trans rfl, (blk_cell D1.out 1).trans rfl, (blk_cell D1.out 2).trans rfl, (blk_cell D1.out 3).trans rfl, (blk_cell D1.out 4).trans rfl, (blk_cell D1.out 5).trans rfl, (blk_cell D2.out 0).trans rfl, (blk_cell D2.out 1).trans rfl, (blk_cell D2.out 2).trans rfl, (blk_cell D2.out 3).trans rfl, (blk_cell D2.out 4).trans rfl, (blk_cell D2.out 5).trans rfl⟩ (fun hHeld => ?_)
        clear hK K
        refine norm_ (a' := ?_) ?_ ?_
        rotate_left
        · show Act.put _ (some 154) _ = _
          simp only [Act.put, List.setIfInBounds_toArray, List.set_cons_zero, List.set_cons_succ, i64_w, i32_w]
          rfl
        refine one_ (i := 11) (N := some 155) #[true, true, true, true, true, true, true, true, true, true, true, true, false, false, false, false, false, false, false, false, false, false, false, false, false, false, false, false, false, false, false, false, false, false] rfl rfl (one_of HT_.out (by kernel_rfl)) (by decide) (fun K hK => ?_)
        refine goes_ Tryd.func10 (by kernel_rfl) rfl #[.agg #[.slice ta p1.length ca, .int .i64 x1, .slice tb ns1.length cb, .bool y1, .int .i64 b1, .int .i64 d1], .agg #[.slice tc p2.length cc, .int .i64 x2, .slice td ns2.length cd, .bool y2, .int .i64 b2, .int .i64 d2]] (by rfl) rfl rfl qa_ ?_
        refine (letterboxref15_Same.calls k _ _ p1 x1 _ _ ns1 y1 b1 d1 _ _ p2 x2 _ _ ns2 y2 b2 d2 true _ (Kd.V_reads' T0).2.2 (Kd.V_reads' T0).2.1 (Kd.V_reads' T1).2.2 (Kd.V_reads' T1).2.1 (Kd.V_reads' T2).2.2 (Kd.V_reads' T2).2.1 (Kd.V_reads' T3).2.2 (Kd.V_reads' T3).2.1 KS.out).mono ?_
        rintro e wc ⟨rfl, b⟩
        refine ⟨_, rfl, ?_⟩
        replace D1 := Aside0.mk (blk_below D1.out b)
        replace D2 := Aside0.mk (blk_below D2.out b)
        replace R0 := Aside0.mk (Kd.R_below R0.out b)
        replace R1 := Aside0.mk (Kd.R_below R1.out b)
        replace Q0 := Aside0.mk (Kd.R_below Q0.out b)
        replace Q1 := Aside0.mk (Kd.R_below Q1.out b)
        replace B1 := Aside0.mk (B1.out.trans (b.mono B1.out.size))
        clear b
        refine hK.out _ _ ⟨(blk_cell D1.out 0).trans rfl, (blk_cell D1.out 1).trans rfl, (blk_cell D1.out 2).trans rfl, (blk_cell D1.out 3).trans rfl, (blk_cell D1.out 4).trans rfl, (blk_cell D1.out 5).trans rfl, (blk_cell D2.out 0).trans rfl, (blk_cell D2.out 1).trans rfl, (blk_cell D2.out 2).trans rfl, (blk_cell D2.out 3).trans rfl, (blk_cell D2.out 4).trans rfl, (blk_cell D2.out 5).trans rfl⟩ (fun hHeld => ?_)
        clear hK K
        refine norm_ (a' := ?_) ?_ ?_
        rotate_left
        · show Act.put _ (some 155) _ = _
          simp only [Act.put, List.setIfInBounds_toArray, List.set_cons_zero, List.set_cons_succ, i64_w, i32_w]
          rfl
        have hpp : ((p1.length : Int) == (l2.length : Int)) = true := by rw [KP.out]; exact beq_self_eq_true _
        refine pure_ (i := 12) (N := some 156) (v := ?_) (a' := ?_) #[true, true, true, true, true, true, true, true, true, true, true, true, true, false, false, false, false, false, false, false, false, false, false, false, false, false, false, false, false, false, false, false, false, false] rfl rfl (any_of HT_.out (by kernel_rfl)) (fun _ _ _ h => h) (Or.inl ⟨by rfl, ?_⟩) ?_ ?_
        rotate_left
        · intro w'
          go_simp
          with_reducible rfl
        rotate_left
        · simp only [Act.put, List.setIfInBounds_toArray, List.set_cons_zero, List.set_cons_succ, i64_w, i32_w]
          rfl
        refine pure_ (i := 13) (N := some 157) (v := ?_) (a' := ?_) #[true, true, true, true, true, true, true, true, true, true, true, true, true, true, false, false, false, false, false, false, false, false, false, false, false, false, false, false, false, false, false, false, false, false] rfl rfl (any_of HT_.out (by kernel_rfl)) (fun _ _ _ h => h) (Or.inl ⟨by rfl, ?_⟩) ?_ ?_
        rotate_left
        · intro w'
          go_simp
          with_reducible rfl
        rotate_left
        · simp only [Act.put, List.setIfInBounds_toArray, List.set_cons_zero, List.set_cons_succ, i64_w, i32_w]
          rfl
        refine pure_ (i := 14) (N := some 158) (v := ?_) (a' := ?_) #[true, true, true, true, true, true, true, true, true, true, true, true, true, true, true, false, false, false, false, false, false, false, false, false, false, false, false, false, false, false, false, false, false, false] rfl rfl (any_of HT_.out (by kernel_rfl)) (fun _ _ _ h => h) (Or.inl ⟨by rfl, ?_⟩) ?_ ?_
        rotate_left
        · intro w'
          go_simp
          with_reducible rfl
        rotate_left
        · simp only [Act.put, List.setIfInBounds_toArray, List.set_cons_zero, List.set_cons_succ, i64_w, i32_w]
          rfl
        refine take_ (i := 15) (N := some 159) (v := ?_) (a' := ?_) #[true, true, true, true, true, true, true, true, true, true, true, true, true, true, true, true, false, false, false, false, false, false, false, false, false, false, false, false, false, false, false, false, false, false] rfl rfl (take_ofW HT_.out HW_.out (by kernel_rfl)) (fun _ _ _ h => h) (Or.inl ⟨by rfl, ?_⟩) hHeld ?_ ?_
        rotate_left
        · rintro w' ⟨s0, s1, s2, s3, s4, s5, s6, s7, s8, s9, s10, s11⟩
          go_simp
          with_reducible rfl
        rotate_left
        · simp only [Act.put, List.setIfInBounds_toArray, List.set_cons_zero, List.set_cons_succ, i64_w, i32_w]
          rfl
        refine pure_ (i := 16) (N := some 160) (v := ?_) (a' := ?_) #[true, true, true, true, true, true, true, true, true, true, true, true, true, true, true, true, true, false, false, false, false, false, false, false, false, false, false, false, false, false, false, false, false, false] rfl rfl (any_of HT_.out (by kernel_rfl)) (fun _ _ _ h => h) (Or.inl ⟨by rfl, ?_⟩) ?_ ?_
        rotate_left
        · intro w'
          go_simp
          with_reducible rfl
        rotate_left
        · simp only [Act.put, List.setIfInBounds_toArray, List.set_cons_zero, List.set_cons_succ, i64_w, i32_w]
          rfl
        refine pure_ (i := 17) (N := some 161) (v := ?_) (a' := ?_) #[true, true, true, true, true, true, true, true, true, true, true, true, true, true, true, true, true, true, false, false, false, false, false, false, false, false, false, false, false, false, false, false, false, false] rfl rfl (any_of HT_.out (by kernel_rfl)) (fun _ _ _ h => h) (Or.inl ⟨by rfl, ?_⟩) ?_ ?_
        rotate_left
        · intro w'
          go_simp
          with_reducible rfl
        rotate_left
        · simp only [Act.put, List.setIfInBounds_toArray, List.set_cons_zero, List.set_cons_succ, i64_w, i32_w]
          rfl
        refine pure_ (i := 18) (N := some 162) (v := ?_) (a' := ?_) #[true, true, true, true, true, true, true, true, true, true, true, true, true, true, true, true, true, true, true, false, false, false, false, false, false, false, false, false, false, false, false, false, false, false] rfl rfl (any_of HT_.out (by kernel_rfl)) (fun _ _ _ h => h) (Or.inl ⟨by rfl, ?_⟩) ?_ ?_
        rotate_left
        · intro w'
          go_simp
          with_reducible rfl
        rotate_left
        · simp only [Act.put, List.setIfInBounds_toArray, List.set_cons_zero, List.set_cons_succ, i64_w, i32_w]
          rfl
        refine pure_ (i := 19) (N := some 163) (v := ?_) (a' := ?_) #[true, true, true, true, true, true, true, true, true, true, true, true, true, true, true, true, true, true, true, true, false, false, false, false, false, false, false, false, false, false, false, false, false, false] rfl rfl (any_of HT_.out (by kernel_rfl)) (fun _ _ _ h => h) (Or.inl ⟨by rfl, ?_⟩) ?_ ?_
        rotate_left
        · intro w'
          go_simp
          with_reducible rfl
        rotate_left
        · simp only [Act.put, List.setIfInBounds_toArray, List.set_cons_zero, List.set_cons_succ, i64_w, i32_w]
          rfl
        refine pure_ (i := 20) (N := some 164) (v := ?_) (a' := ?_) #[true, true, true, true, true, true, true, true, true, true, true, true, true, true, true, true, true, true, true, true, true, false, false, false, false, false, false, false, false, false, false, false, false, false] rfl rfl (any_of HT_.out (by kernel_rfl)) (fun _ _ _ h => h) (Or.inl ⟨by rfl, ?_⟩) ?_ ?_
        rotate_left
        · intro w'
          go_simp
          with_reducible rfl
        rotate_left
        · simp only [Act.put, List.setIfInBounds_toArray, List.set_cons_zero, List.set_cons_succ, i64_w, i32_w]
          rfl
        refine pure_ (i := 21) (N := some 165) (v := ?_) (a' := ?_) #[true, true, true, true, true, true, true, true, true, true, true, true, true, true, true, true, true, true, true, true, true, true, false, false, false, false, false, false, false, false, false, false, false, false] rfl rfl (any_of HT_.out (by kernel_rfl)) (fun _ _ _ h => h) (Or.inl ⟨by rfl, ?_⟩) ?_ ?_
        rotate_left
        · intro w'
          go_simp
          with_reducible rfl
        rotate_left
        · simp only [Act.put, List.setIfInBounds_toArray, List.set_cons_zero, List.set_cons_succ, i64_w, i32_w]
          rfl
        refine pure_ (i := 22) (N := some 166) (v := ?_) (a' := ?_) #[true, true, true, true, true, true, true, true, true, true, true, true, true, true, true, true, true, true, true, true, true, true, true, false, false, false, false, false, false, false, false, false, false, false] rfl rfl (any_of HT_.out (by kernel_rfl)) (fun _ _ _ h => h) (Or.inl ⟨by rfl, ?_⟩) ?_ ?_
        rotate_left
        · intro w'
          go_simp
          with_reducible rfl
        rotate_left
        · simp only [Act.put, List.setIfInBounds_toArray, List.set_cons_zero, List.set_cons_succ, i64_w, i32_w]
          rfl
        refine pure_ (i := 23) (N := some 167) (v := ?_) (a' := ?_) #[true, true, true, true, true, true, true, true, true, true, true, true, true, true, true, true, true, true, true, true, true, true, true, true, false, false, false, false, false, false, false, false, false, false] rfl rfl (any_of HT_.out (by kernel_rfl)) (fun _ _ _ h => h) (Or.inl ⟨by rfl, ?_⟩) ?_ ?_
        rotate_left
        · intro w'
          go_simp
          with_reducible rfl
        rotate_left
        · simp only [Act.put, List.setIfInBounds_toArray, List.set_cons_zero, List.set_cons_succ, i64_w, i32_w]
          rfl
        refine pure_ (i := 24) (N := some 168) (v := ?_) (a' := ?_) #[true, true, true, true, true, true, true, true, true, true, true, true, true, true, true, true, true, true, true, true, true, true, true, true, true, false, false, false, false, false, false, false, false, false] rfl rfl (any_of HT_.out (by kernel_rfl)) (fun _ _ _ h => h) (Or.inl ⟨by rfl, ?_⟩) ?_ ?_
        rotate_left
        · intro w'
          go_simp
          with_reducible rfl
        rotate_left
        · simp only [Act.put, List.setIfInBounds_toArray, List.set_cons_zero, List.set_cons_succ, i64_w, i32_w]
          rfl
        refine pure_ (i := 25) (N := some 169) (v := ?_) (a' := ?_) #[true, true, true, true, true, true, true, true, true, true, true, true, true, true, true, true, true, true, true, true, true, true, true, true, true, true, false, false, false, false, false, false, false, false] rfl rfl (any_of HT_.out (by kernel_rfl)) (fun _ _ _ h => h) (Or.inl ⟨by rfl, ?_⟩) ?_ ?_
        rotate_left
        · intro w'
          go_simp
          with_reducible rfl
        rotate_left
        · simp only [Act.put, List.setIfInBounds_toArray, List.set_cons_zero, List.set_cons_succ, i64_w, i32_w]
          rfl
        refine pure_ (i := 26) (N := some 170) (v := ?_) (a' := ?_) #[true, true, true, true, true, true, true, true, true, true, true, true, true, true, true, true, true, true, true, true, true, true, true, true, true, true, true, false, false, false, false, false, false, false] rfl rfl (any_of HT_.out (by kernel_rfl)) (fun _ _ _ h => h) (Or.inl ⟨by rfl, ?_⟩) ?_ ?_
        rotate_left
        · intro w'
          go_simp
          with_reducible rfl
        rotate_left
        · simp only [Act.put, List.setIfInBounds_toArray, List.set_cons_zero, List.set_cons_succ, i64_w, i32_w]
          rfl
        refine pure_ (i := 27) (N := some 171) (v := ?_) (a' := ?_) #[true, true, true, true, true, true, true, true, true, true, true, true, true, true, true, true, true, true, true, true, true, true, true, true, true, true, true, true, false, false, false, false, false, false] rfl rfl (any_of HT_.out (by kernel_rfl)) (fun _ _ _ h => h) (Or.inl ⟨by rfl, ?_⟩) ?_ ?_
        rotate_left
        · intro w'
          go_simp
          with_reducible rfl
        rotate_left
        · simp only [Act.put, List.setIfInBounds_toArray, List.set_cons_zero, List.set_cons_succ, i64_w, i32_w]
          rfl
        refine pure_ (i := 28) (N := some 172) (v := ?_) (a' := ?_) #[true, true, true, true, true, true, true, true, true, true, true, true, true, true, true, true, true, true, true, true, true, true, true, true, true, true, true, true, true, false, false, false, false, false] rfl rfl (any_of HT_.out (by kernel_rfl)) (fun _ _ _ h => h) (Or.inl ⟨by rfl, ?_⟩) ?_ ?_
        rotate_left
        · intro w'
          go_simp
          with_reducible rfl
        rotate_left
        · simp only [Act.put, List.setIfInBounds_toArray, List.set_cons_zero, List.set_cons_succ, i64_w, i32_w]
          rfl
        refine pure_ (i := 29) (N := some 173) (v := ?_) (a' := ?_) #[true, true, true, true, true, true, true, true, true, true, true, true, true, true, true, true, true, true, true, true, true, true, true, true, true, true, true, true, true, true, false, false, false, false] rfl rfl (any_of HT_.out (by kernel_rfl)) (fun _ _ _ h => h) (Or.inl ⟨by rfl, ?_⟩) ?_ ?_
        rotate_left
        · intro w'
          go_simp
          with_reducible rfl
        rotate_left
        · simp only [Act.put, List.setIfInBounds_toArray, List.set_cons_zero, List.set_cons_succ, i64_w, i32_w]
          rfl
        refine pure_ (i := 30) (N := some 174) (v := ?_) (a' := ?_) #[true, true, true, true, true, true, true, true, true, true, true, true, true, true, true, true, true, true, true, true, true, true, true, true, true, true, true, true, true, true, true, false, false, false] rfl rfl (any_of HT_.out (by kernel_rfl)) (fun _ _ _ h => h) (Or.inl ⟨by rfl, ?_⟩) ?_ ?_
        rotate_left
        · intro w'
          go_simp
          with_reducible rfl
        rotate_left
        · simp only [Act.put, List.setIfInBounds_toArray, List.set_cons_zero, List.set_cons_succ, i64_w, i32_w]
          rfl
        refine pure_ (i := 31) (N := some 175) (v := ?_) (a' := ?_) #[true, true, true, true, true, true, true, true, true, true, true, true, true, true, true, true, true, true, true, true, true, true, true, true, true, true, true, true, true, true, true, true, false, false] rfl rfl (any_of HT_.out (by kernel_rfl)) (fun _ _ _ h => h) (Or.inl ⟨by rfl, ?_⟩) ?_ ?_
        rotate_left
        · intro w'
          go_simp
          with_reducible rfl
        rotate_left
        · simp only [Act.put, List.setIfInBounds_toArray, List.set_cons_zero, List.set_cons_succ, i64_w, i32_w]
          rfl
        refine pure_ (i := 32) (N := some 176) (v := ?_) (a' := ?_) #[true, true, true, true, true, true, true, true, true, true, true, true, true, true, true, true, true, true, true, true, true, true, true, true, true, true, true, true, true, true, true, true, true, false] rfl rfl (any_of HT_.out (by kernel_rfl)) (fun _ _ _ h => h) (Or.inl ⟨by rfl, ?_⟩) ?_ ?_
        rotate_left
        · intro w'
          go_simp
          with_reducible rfl
        rotate_left
        · simp only [Act.put, List.setIfInBounds_toArray, List.set_cons_zero, List.set_cons_succ, i64_w, i32_w]
          rfl
        refine pure_ (i := 33) (N := some 6) (v := ?_) (a' := ?_) #[true, true, true, true, true, true, true, true, true, true, true, true, true, true, true, true, true, true, true, true, true, true, true, true, true, true, true, true, true, true, true, true, true, true] rfl rfl (any_of HT_.out (by kernel_rfl)) (fun _ _ _ h => h) (Or.inl ⟨by rfl, ?_⟩) ?_ ?_
        rotate_left
        · intro w'
          go_simp
          with_reducible rfl
        rotate_left
        · simp only [Act.put, List.setIfInBounds_toArray, List.set_cons_zero, List.set_cons_succ, i64_w, i32_w]
          rfl
        refine done_ (done_of HT_.out (by kernel_rfl)) ?_
        try go_wp2
        go_ret
        exact ⟨rfl, B1.out⟩
def letterboxlaw15_SectionCase.Pure : Prop := ∀ (a0 a1 : Int) (l2 : List Int), (Lit.int .u8 a0).wf = true → (Lit.int .u32 a1).wf = true → l2.length ≤ maxLen → l2.length * 1 ≤ 140737488351232 → (∀ x ∈ l2, (Lit.int .u8 x).wf = true) → ∃ k, letterboxlaw15_SectionCase.f k a0 a1 l2 = some true
theorem letterboxlaw15_SectionCase.walk (hPure : letterboxlaw15_SectionCase.Pure) (a0 a1 : Int) (a2 : Option Addr) (len2 cap2 : Nat) (z2 : List Int) (w : World) (w0 : (Lit.int .u8 a0).wf = true) (w1 : (Lit.int .u32 a1).wf = true) (w2 : (a2 = none ∧ len2 = 0 ∧ cap2 = 0 ∧ z2 = []) ∨ ∃ x, a2 = some x ∧ len2 ≤ cap2 ∧ cap2 ≤ maxLen ∧ z2.length = cap2 ∧ (∀ i, i < z2.length → w.cell? (x.add i) = some (.int .u8 (z2.getD i 0))) ∧ ∀ n ∈ z2, (Lit.int .u8 n).wf = true) (y2 : len2 * 1 ≤ 140737488351232) (hL0 : sec_Words w) :
    Calls Tryd.prog 5 #[.int .u8 a0, .int .u32 a1, .slice a2 len2 cap2] w fun e w' => e = .returned (.bool true) ∧ Below w.heap.size w w' := by
  obtain ⟨l2, rfl, hr2, hm2, hw2, hc2⟩ := ReadsInt.ofRowC w2
  obtain ⟨k, h⟩ := hPure a0 a1 l2 w0 w1 hm2 y2 hw2
  refine (letterboxlaw15_SectionCase.calls k a0 a1 _ _ l2 true w (Kd.C_of_reads (d := (0 : Int)) (h1 := fun _ => rfl) hr2) hc2 h).mono ?_
  rintro e w' ⟨rfl, hd⟩
  exact ⟨rfl, hd⟩

end Go.Proofs.YtbjbagocnnffaaaDoor.P
