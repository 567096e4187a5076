-- Written by a program of this session (wip/tools/mk.sh) for this claim: it runs the kit's print with contracts of our own. Lean checks it.
import Derived.Test.YtmdhggiffdkmfaaPx0
import Derived.Test.YtmdhggiffdkmfaaZStr
import Derived.Test.YtmdhggiffdkmfaaPx6
namespace Go.Proofs.Ytmdhggiffdkmfaa.P
open Go.RowKit Go.Proofs.YtmdhggiffdkmfaaW.PrintWords Go.Proofs.YtmdhggiffdkmfaaW.PrintLast Go.Proofs.YtmdhggiffdkmfaaW.PrintMore
attribute [-simp] Int.tmod_tmod_of_dvd
attribute [local go_sem] max2_int min2_int max_two min_two max_three min_three max_four min_four   -- for this text's walks alone
set_option linter.unusedVariables false
set_option linter.unusedSimpArgs false

/-! ### letterboxlaw18_WireLeft: function 4 -/
/-- what Feed tells, in a form that can be reckoned -/
def fd_o (b : List Int) (asked : Int) (l : List Int) : Option (List (Int × List Int) × List Int × Int) := (fd_f 200 b asked l).map fun t => (t.1.map fun e => (e.f0, e.f1), t.2)
theorem fd_of {b : List Int} {asked : Int} {l : List Int} {evs : List (Int × List Int)} {b' : List Int} {a' : Int} (h : fd_o b asked l = some (evs, b', a')) : fd_f 200 b asked l = some (evs.map fun e => (⟨e.1, e.2⟩ : S33), b', a') := by
  unfold fd_o at h
  cases hf : fd_f 200 b asked l with
  | none => rw [hf] at h; cases h
  | some t =>
    rw [hf] at h
    have h := Option.some.inj h
    obtain ⟨evs0, r⟩ := t
    have h1 := congrArg Prod.fst h
    have h2 := congrArg Prod.snd h
    simp only at h1 h2
    subst h1 h2
    rw [List.map_map]
    congr 2
    exact (List.map_id evs0).symm
theorem Fr.below {w w1 : World} {base g : Nat} {v : Value} {b : List Int} {asked : Int} (h : Fr w base g v b asked) (hB : Below w.heap.size w w1) : Fr w1 base g v b asked :=
  ⟨(hB.block _ (blk_lt h.blk)).trans h.blk, Kd.R_below h.row hB⟩
def wl_a (i : Nat) : List Int := List.replicate i 97
def wl_h (s : Nat) : List Int := [32, 123] ++ (if s < 10 then [48 + (s : Int)] else [48 + (s / 10 : Nat), 48 + (s % 10 : Nat)]) ++ [125, 13, 10]
def wl_b (s : Nat) : List Int := [120, 121] ++ wl_h s
def wl_1 (i : Nat) : Bool := fd_o (wl_a i) 0 [97] == some ([], wl_a (i + 1), 0)
def wl_2 (i : Nat) : Bool := fd_o (wl_a i) 0 [13] == some ([], wl_a i ++ [13], 0)
def wl_3 (i : Nat) : Bool := fd_o (wl_a i ++ [13]) 0 [10, 120, 121] == some ([(2, wl_a i)], [120, 121], 0)
def wl_4 (s : Nat) : Bool := fd_o [120, 121] 0 (wl_h s) == some ([(1, [])], wl_b s, ((wl_b s).length : Int))
def wl_5 (s : Nat) : Bool := fd_o (wl_b s) ((wl_b s).length : Int) (List.replicate s 0) == some ([], wl_b s ++ List.replicate s 0, ((wl_b s).length : Int))
def wl_6 (s : Nat) : Bool := fd_o (wl_b s ++ List.replicate s 0) ((wl_b s).length : Int) [10] == some ([(2, wl_b s ++ List.replicate s 0)], [], 0)
theorem wl_60 : (List.range 60).all (fun i => wl_1 i && (wl_2 i && wl_3 i)) = true := by decide +kernel
theorem wl_40 : (List.range 40).all (fun s => wl_4 s && (wl_5 s && wl_6 s)) = true := by decide +kernel
theorem wl_at1 (i : Nat) (h : i < 60) : fd_o (wl_a i) 0 [97] = some ([], wl_a (i + 1), 0) := by
  have := List.all_eq_true.1 wl_60 i (List.mem_range.2 h)
  rw [Bool.and_eq_true] at this
  exact beq_iff_eq.1 this.1
theorem wl_at2 (i : Nat) (h : i < 60) : fd_o (wl_a i) 0 [13] = some ([], wl_a i ++ [13], 0) := by
  have := List.all_eq_true.1 wl_60 i (List.mem_range.2 h)
  rw [Bool.and_eq_true, Bool.and_eq_true] at this
  exact beq_iff_eq.1 this.2.1
theorem wl_at3 (i : Nat) (h : i < 60) : fd_o (wl_a i ++ [13]) 0 [10, 120, 121] = some ([(2, wl_a i)], [120, 121], 0) := by
  have := List.all_eq_true.1 wl_60 i (List.mem_range.2 h)
  rw [Bool.and_eq_true, Bool.and_eq_true] at this
  exact beq_iff_eq.1 this.2.2
theorem wl_at4 (s : Nat) (h : s < 40) : fd_o [120, 121] 0 (wl_h s) = some ([(1, [])], wl_b s, ((wl_b s).length : Int)) := by
  have := List.all_eq_true.1 wl_40 s (List.mem_range.2 h)
  rw [Bool.and_eq_true] at this
  exact beq_iff_eq.1 this.1
theorem wl_at5 (s : Nat) (h : s < 40) : fd_o (wl_b s) ((wl_b s).length : Int) (List.replicate s 0) = some ([], wl_b s ++ List.replicate s 0, ((wl_b s).length : Int)) := by
  have := List.all_eq_true.1 wl_40 s (List.mem_range.2 h)
  rw [Bool.and_eq_true, Bool.and_eq_true] at this
  exact beq_iff_eq.1 this.2.1
theorem wl_at6 (s : Nat) (h : s < 40) : fd_o (wl_b s ++ List.replicate s 0) ((wl_b s).length : Int) [10] = some ([(2, wl_b s ++ List.replicate s 0)], [], 0) := by
  have := List.all_eq_true.1 wl_40 s (List.mem_range.2 h)
  rw [Bool.and_eq_true, Bool.and_eq_true] at this
  exact beq_iff_eq.1 this.2.2
def wl_d (s : Nat) : List Int := if s < 10 then [48 + (s : Int)] else [48 + (s / 10 : Nat), 48 + (s % 10 : Nat)]
theorem wl_ds : ∀ s : Fin 40, letterboxlaw18_digits.f ((s.val : Nat) : Int) = some (strOfNums (wl_d s.val)) := by decide +kernel
theorem wl_app (l m : List Int) : strOfNums (l ++ m) = strOfNums l ++ strOfNums m := by
  apply ByteArray.ext
  apply Array.ext'
  rw [ByteArray.data_append, Array.toList_append, strOfNums_data, strOfNums_data, strOfNums_data, List.map_append]
theorem wl_hb (s : Nat) (h : s < 40) : ∀ c ∈ wl_h s, 0 ≤ c ∧ c ≤ 255 := by
  intro c hc
  unfold wl_h at hc
  split at hc <;> simp at hc <;> omega
theorem wl_digits (s : Nat) (h : s < 40) : ∃ r, r = strOfNums (wl_d s) ∧ ((⟨#[32, 123]⟩ : ByteArray) ++ r) ++ (⟨#[125, 13, 10]⟩ : ByteArray) = strOfNums (wl_h s) ∧ letterboxlaw18_digits.f (s : Int) = some r := by
  refine ⟨_, rfl, ?_, wl_ds ⟨s, h⟩⟩
  unfold wl_h wl_d
  rw [wl_app, wl_app]; rfl
set_option maxHeartbeats 8000000 in
set_option maxRecDepth 100000 in
theorem wl_walk (n k : Int) (hn : 0 ≤ n ∧ n ≤ 255) (hk : 0 ≤ k ∧ k ≤ 255) (w : World) : Calls Try.prog 4 #[.int .u8 n, .int .u8 k] w fun e w' => e = .returned (.bool true) ∧ Below w.heap.size w w' := by
  have kc := fun (w : World) (C : Array Value) (n c : Nat) => Lib.run_convert_bytes_const (P := Try.prog) w 22 5 C n c Try.underlying22 Try.underlying5
  obtain ⟨N, hN⟩ : ∃ N : Nat, n % 60 = (N : Int) := ⟨(n % 60).toNat, by omega⟩
  have hN60 : N < 60 := by omega
  have HN := Aside0.mk hN
  go_enter Try.func4, Try.ntmps4
  go_wp2_with (go_at_call 7; refine (fr_awake _).mono ?_; rintro e w1 ⟨rfl, hB1⟩; have HB1 := Aside0.mk hB1; clear hB1)
  generalize hW0 : w1.alloc (Obj.cells #[Value.slice none 0 0, Value.int IntKind.i64 0] 25) = W0
  have F0 : Fr W0 w1.heap.size w1.heap.size (.slice none 0 0) (wl_a 0) 0 := ⟨by subst hW0; exact heap_alloc_new _ _, Kd.R_nil _ _ _ _ _⟩
  have B0 : Below w.heap.size w W0 := by subst hW0; exact HB1.out.trans (below_alloc (Below.refl _ _) _ |>.mono HB1.out.size)
  have s1 := HB1.out.size
  clear hW0
  generalize w1.heap.size = g at *
  have HF0 := Aside0.mk F0
  have HB0 := Aside0.mk B0
  clear F0 B0 HB1
  go_loopw [7] (fun v7 w' => ∃ (i : Nat) (v : Value), v7 = .int .i64 (i : Int) ∧ i ≤ N ∧ Aside0 (Fr w' g g v (wl_a i) 0) ∧ Aside0 (Below w.heap.size w w')) (fun v7 _ => N - (intOf v7).toNat)
  case atStart => exact ⟨0, _, rfl, Nat.zero_le _, HF0, HB0⟩
  case round =>
    clear HF0 HB0
    obtain ⟨i, v, rfl, hi, HF, HB⟩ := hrel
    by_cases hlt : i < N
    · have hb : decide ((i : Int) < n % 60) = true := decide_eq_true (by omega)
      go_wp2_with fail
      have FA := HF.out.below (below_alloc (Below.refl _ _) (.cells ([97].map (Value.int .u8)).toArray 5 (1, 2)))
      refine (fr_Feed 200 g v (wl_a i) 0 (some ⟨wr.heap.size, 0, none⟩) 1 [97] _ _ _ _ g FA (Nat.le_of_lt (blk_lt FA.blk)) (Go.Proofs.Ytmdhggiffdkmfaa.Aids.const_C (t := 5) (fr := (1, 2)) [97] (by decide) (heap_alloc_new _ _)) (fd_of (wl_at1 i (by omega)))).mono ?_
      rintro e w2 ⟨v2, ve, rfl, I⟩
      obtain ⟨Ae, ce, rfl⟩ := Kd.R_slice I.ev
      have HF2 := Aside0.mk I.fr
      have HB2 := Aside0.mk ((HB.out.alloc HB.out.size _).trans (I.bel w.heap.size (by omega) (by omega) (by have := HB.out.size; simp; omega)))
      have hL := fr_Left g v2 (wl_a (i + 1)) 0 w2 g I.fr
      rw [show (((wl_a (i + 1)).length : Nat) : Int) = (i : Int) + 1 by unfold wl_a; simp] at hL
      have HL := Aside0.mk hL
      have hne : ((i : Int) + 1 != (i : Int) + 1) = false := by simp
      clear FA I hL
      go_wp2_with (go_at_call 10; refine HL.out.mono ?_; rintro e w3 ⟨rfl, rfl⟩)
      refine ⟨⟨i + 1, v2, by simp, by omega, HF2, HB2⟩, ?_⟩
      simp [intOf]; omega
    · have e : i = N := by omega
      subst e
      go_wp2_with fail
      have FA := HF.out.below (below_alloc (Below.refl _ _) (.cells ([13].map (Value.int .u8)).toArray 5 (1, 2)))
      refine (fr_Feed 200 g v (wl_a i) 0 (some ⟨wr.heap.size, 0, none⟩) 1 [13] _ _ _ _ g FA (Nat.le_of_lt (blk_lt FA.blk)) (Go.Proofs.Ytmdhggiffdkmfaa.Aids.const_C (t := 5) (fr := (1, 2)) [13] (by decide) (heap_alloc_new _ _)) (fd_of (wl_at2 i (by omega)))).mono ?_
      rintro e w2 ⟨v2, ve, rfl, I⟩
      obtain ⟨Ae, ce, rfl⟩ := Kd.R_slice I.ev
      have HF2 := Aside0.mk I.fr
      have HB2 := Aside0.mk ((HB.out.alloc HB.out.size _).trans (I.bel w.heap.size (by omega) (by omega) (by have := HB.out.size; simp; omega)))
      clear FA I HF HB
      go_wp2_with fail
      have FA := HF2.out.below (below_alloc (Below.refl _ _) (.cells ([10, 120, 121].map (Value.int .u8)).toArray 5 (3, 4)))
      refine (fr_Feed 200 g v2 (wl_a i ++ [13]) 0 (some ⟨w2.heap.size, 0, none⟩) 3 [10, 120, 121] _ _ _ _ g FA (Nat.le_of_lt (blk_lt FA.blk)) (Go.Proofs.Ytmdhggiffdkmfaa.Aids.const_C (t := 5) (fr := (3, 4)) [10, 120, 121] (by decide) (heap_alloc_new _ _)) (fd_of (wl_at3 i (by omega)))).mono ?_
      rintro e w3 ⟨v3, ve3, rfl, I⟩
      obtain ⟨Ae3, ce3, rfl⟩ := Kd.R_slice I.ev
      obtain ⟨g3, rfl⟩ := fr_cell I.ev (by simp)
      obtain ⟨_, Ab, cb, e2, k2, k2b, hlb, hcb⟩ := at_T33 (Kd.R_reads' I.ev).2.2 0 (by decide) (by simp)
      cases e2
      have hla : (wl_a i).length = i := by simp [wl_a]
      replace k2 : w3.cell? ⟨g3, 0, none⟩ = some (.int .i64 2) := k2
      replace k2b : w3.cell? ⟨g3, 1, none⟩ = some (.slice Ab i cb) := by
        have h : w3.cell? ⟨g3, 1, none⟩ = some (.slice Ab (wl_a i).length cb) := k2b
        rwa [hla] at h
      have HF3 := Aside0.mk I.fr
      have HB3 := Aside0.mk ((HB2.out.alloc HB2.out.size _).trans (I.bel w.heap.size (by omega) (by omega) (by have := HB2.out.size; simp; omega)))
      have HL := Aside0.mk (fr_Left g v3 [120, 121] 0 w3 g I.fr)
      clear FA I HF2 HB2 hcb hlb hla
      obtain ⟨s, hs⟩ : ∃ s : Nat, k % 40 = (s : Int) := ⟨(k % 40).toNat, by omega⟩
      have hs40 : s < 40 := by omega
      obtain ⟨r, hr, hrs, hd⟩ := wl_digits s hs40
      have hd' := Aside0.mk (show letterboxlaw18_digits.f (s : Int) = some r from hd)
      clear hd
      have hrz : r.size ≤ 2 := by rw [hr, strOfNums_size]; unfold wl_d; split <;> simp
      have HRS := Aside0.mk hrs
      have HRZ := Aside0.mk hrz
      have t1 : (9223372036854775807 < 2 + r.size) = False := eq_false (by omega)
      have t2 : (9223372036854775807 < 2 + r.size + 3) = False := eq_false (by omega)
      clear hr hrs hrz
      have hcv := fun W : World => print_bytes (P := Try.prog) 9 22 5 Try.underlying9 Try.underlying22 Try.underlying5 (((⟨#[32, 123]⟩ : ByteArray) ++ r) ++ (⟨#[125, 13, 10]⟩ : ByteArray)) W
      go_wp2_with (first | (go_at_call 10; refine HL.out.mono ?_; rintro e w4 ⟨rfl, rfl⟩) | (go_at_call 11; refine (letterboxlaw18_digits.calls (s : Int) r _ hd'.out).mono ?_; rintro e w5 ⟨rfl, ⟨nd, rfl⟩⟩))
      have hlen : 2 + r.size + 3 = (wl_h s).length := by
        have h := congrArg ByteArray.size HRS.out
        rw [strOfNums_size, ByteArray.size_append, ByteArray.size_append] at h
        exact h
      obtain ⟨hV, hBs, _⟩ := Go.Proofs.Ytmdhggiffdkmfaa.Conv.bytes_facts (w0 := w4.drewN nd) (W := w4.drewN nd) (base := w4.heap.size) (e := 5) (s := ((⟨#[32, 123]⟩ : ByteArray) ++ r) ++ (⟨#[125, 13, 10]⟩ : ByteArray)) (ok := fun _ => True) (by rw [HRS.out, strOfNums_size]; have := HRZ.out; omega) trivial (Below.refl _ _) (Nat.le_refl _)
      have hC := (Kd.V_reads' hV).2.2
      rw [show bytesOf (((⟨#[32, 123]⟩ : ByteArray) ++ r) ++ (⟨#[125, 13, 10]⟩ : ByteArray)) = wl_h s by rw [HRS.out, Go.Proofs.Ytmdhggiffdkmfaa.Aids.bytes_str _ (wl_hb s hs40)]] at hC
      have FA := HF3.out.below ((Drawn0.below ⟨⟨nd, rfl⟩⟩).trans hBs)
      have HBB := Aside0.mk (HB3.out.trans (((Drawn0.below (w := w4) ⟨⟨nd, rfl⟩⟩).trans hBs).mono HB3.out.size))
      rw [hlen]
      refine (fr_Feed 200 g v3 [120, 121] 0 (some ⟨w4.heap.size, 0, none⟩) _ (wl_h s) _ _ _ _ g FA (Nat.le_of_lt (blk_lt FA.blk)) hC (fd_of (wl_at4 s hs40))).mono ?_
      rintro e w6 ⟨v4, ve4, rfl, I⟩
      obtain ⟨Ae4, ce4, rfl⟩ := Kd.R_slice I.ev
      obtain ⟨g4, rfl⟩ := fr_cell I.ev (by simp)
      obtain ⟨_, _, _, e4, k4, _⟩ := at_T33 (Kd.R_reads' I.ev).2.2 0 (by decide) (by simp)
      cases e4
      replace k4 : w6.cell? ⟨g4, 0, none⟩ = some (.int .i64 1) := k4
      have HF6 := Aside0.mk I.fr
      have HB6 := Aside0.mk (HBB.out.trans (I.bel w.heap.size (by omega) (by omega) HBB.out.size))
      clear FA I HF3 hV hBs hC hcv t1 t2 hlen k2 k2b
      go_wp2_with ((with_reducible refine gate_dst (N := 93) rfl ?_); refine Kd.R_make (Kd.int .u8) (w0 := w6) w6.heap.size 5 rfl (N := 93) rfl 22 (.tmp 92) (.tmp 92) rfl (s : Int) rfl rfl Try.underlying22 (.int .u8 0) 1 infoB rfl (by decide) (by decide) (0 : Int) (ok := fun _ => True) (okp := fun _ => True) ?hz (fun _ h => h) trivial (by omega) ?hl (Below.refl _ _) (Nat.le_refl _) ?_; (case hz => rfl); (case hl => rw [Int.toNat_natCast]; omega); intro v7 w7 hR7 hB7 hg7 hb7; rw [Int.toNat_natCast] at hR7; obtain ⟨A7, c7, rfl⟩ := Kd.R_slice hR7; have HR7 := Aside0.mk hR7; have HB7 := Aside0.mk hB7; clear hR7 hB7 hg7 hb7; rw [List.length_replicate] at HR7 ⊢)
      have FA := HF6.out.below HB7.out
      have HBB := Aside0.mk (HB6.out.trans (HB7.out.mono HB6.out.size))
      have hC := (Kd.R_reads' HR7.out).2.2
      have e7 : (List.replicate s (0 : Int)).length = s := List.length_replicate
      rw [← e7]
      refine (fr_Feed 200 g v4 (wl_b s) _ A7 c7 (List.replicate s 0) _ _ _ _ g FA (Nat.le_of_lt (blk_lt FA.blk)) hC (fd_of (wl_at5 s hs40))).mono ?_
      rintro e w8 ⟨v8, ve8, rfl, I⟩
      obtain ⟨Ae8, ce8, rfl⟩ := Kd.R_slice I.ev
      have HF8 := Aside0.mk I.fr
      have HB8 := Aside0.mk (HBB.out.trans (I.bel w.heap.size (by omega) (by omega) HBB.out.size))
      clear FA I HF6 HB6 hC e7 k4
      go_wp2_with fail
      have FA := HF8.out.below (below_alloc (Below.refl _ _) (.cells ([10].map (Value.int .u8)).toArray 5 (1, 2)))
      refine (fr_Feed 200 g v8 (wl_b s ++ List.replicate s 0) _ (some ⟨w8.heap.size, 0, none⟩) 1 [10] _ _ _ _ g FA (Nat.le_of_lt (blk_lt FA.blk)) (Go.Proofs.Ytmdhggiffdkmfaa.Aids.const_C (t := 5) (fr := (1, 2)) [10] (by decide) (heap_alloc_new _ _)) (fd_of (wl_at6 s hs40))).mono ?_
      rintro e w9 ⟨v9, ve9, rfl, I⟩
      obtain ⟨Ae9, ce9, rfl⟩ := Kd.R_slice I.ev
      obtain ⟨g9, rfl⟩ := fr_cell I.ev (by simp)
      obtain ⟨_, _, _, e9, k9, _⟩ := at_T33 (Kd.R_reads' I.ev).2.2 0 (by decide) (by simp)
      cases e9
      replace k9 : w9.cell? ⟨g9, 0, none⟩ = some (.int .i64 2) := k9
      have HB9 := Aside0.mk ((HB8.out.alloc HB8.out.size _).trans (I.bel w.heap.size (by omega) (by omega) (by have := HB8.out.size; simp; omega)))
      have HL := Aside0.mk (fr_Left g v9 [] 0 w9 g I.fr)
      clear FA I HF8 HB8
      go_wp2_with (go_at_call 10; refine HL.out.mono ?_; rintro e w10 ⟨rfl, rfl⟩)
      go_ret
      exact ⟨rfl, HB9.out⟩
def letterboxlaw18_WireLeft.f (k : Nat) (a0 : Int) (a1 : Int) : Option Bool := some true
def letterboxlaw18_WireLeft.Pure : Prop := ∀ (a0 : Int) (a1 : Int), (Lit.int .u8 a0).wf = true → (Lit.int .u8 a1).wf = true → ∃ k, letterboxlaw18_WireLeft.f k a0 a1 = some true
theorem letterboxlaw18_WireLeft.walk (P : letterboxlaw18_WireLeft.Pure) (a0 : Int) (a1 : Int) (w : World) (w0 : (Lit.int .u8 a0).wf = true) (w1 : (Lit.int .u8 a1).wf = true) :
    Calls Try.prog 4 #[.int .u8 a0, .int .u8 a1] w fun e w' => e = .returned (.bool true) ∧ Below w.heap.size w w' :=
  wl_walk a0 a1 (Go.Proofs.Ytmdhggiffdkmfaa.Aids.wf_u8 w0) (Go.Proofs.Ytmdhggiffdkmfaa.Aids.wf_u8 w1) w

/-! ### letterboxref18_printed: function 25 -/
def letterboxref18_printed.l0 : Nat → ByteArray → Int → Option (Bool)
  | 0, _, _ => none
  | k + 1, x0, x3 => if x3 < (x0.size : Int) then (if 0 ≤ x3 then (if (bt x0 x3) < 32 then (some false) else (if (bt x0 x3) > 126 then (some false) else (letterboxref18_printed.l0 k x0 (wrap64 (x3 + 1))))) else (none)) else (some true)
def letterboxref18_printed.f (k : Nat) (a0 : ByteArray) : Option (Bool) := letterboxref18_printed.l0 k a0 0
theorem letterboxref18_printed.mono_l : ∀ k, (∀ y0 y1, LeO (letterboxref18_printed.l0 k y0 y1) (letterboxref18_printed.l0 (k + 1) y0 y1))
  | 0 => fun _ _ r h => by simp [letterboxref18_printed.l0] at h
  | k + 1 => by
    have ih0 := letterboxref18_printed.mono_l k
    · intro y0 y1
      unfold letterboxref18_printed.l0
      repeat' first
      | (with_reducible exact ih0 _ _)
      | (with_reducible exact LeO.refl _)
      | (with_reducible exact LeO.none _)
      | (with_reducible refine LeO.ite ?_ ?_)
      | (with_reducible refine LeO.bind ?_ (fun _ => ?_))
      | exact ih0 _ _
      | exact LeO.none _
      | refine LeO.ite ?_ ?_
      | refine LeO.bind ?_ (fun _ => ?_)
theorem letterboxref18_printed.mono : ∀ a0 k, LeO (letterboxref18_printed.f k a0) (letterboxref18_printed.f (k + 1) a0) := by
  intro a0 k
  have ih0 := letterboxref18_printed.mono_l k
  unfold letterboxref18_printed.f
  repeat' first
      | (with_reducible exact ih0 _ _)
      | (with_reducible exact LeO.refl _)
      | (with_reducible exact LeO.none _)
      | (with_reducible refine LeO.ite ?_ ?_)
      | (with_reducible refine LeO.bind ?_ (fun _ => ?_))
      | exact ih0 _ _
      | exact LeO.none _
      | refine LeO.ite ?_ ?_
      | refine LeO.bind ?_ (fun _ => ?_)
set_option maxHeartbeats 8000000 in
set_option maxRecDepth 100000 in
theorem letterboxref18_printed.calls (k : Nat) (a0 : ByteArray) (r : Bool) (w : World) (h : letterboxref18_printed.f k a0 = some r) :
    Calls Try.prog 25 #[.string a0] w fun e w' => e = .returned (.bool r) ∧ Drawn0 w w' := by
  have H : (letterboxref18_printed.l0 k a0 0) = some r := h
  clear h
  have H' := Aside0.mk H
  clear H
  go_enter Try.func25, Try.ntmps25
  go_wp2
  go_loopg [3] k (fun kq v3 w' => ∃ (x3_1 : Int), v3 = .int .i64 x3_1 ∧ Aside0 (letterboxref18_printed.l0 kq a0 x3_1 = some r) ∧ Aside0 (kq ≤ k) ∧ Drawn0 w w')
  case atStart => exact ⟨(0), (by first | rfl | (simp; done) | (simp [*]; done)), H', ⟨Nat.le_refl _⟩, by repeat (first | exact Drawn0.refl _ | apply Drawn0.step)⟩
  case round =>
    clear H'
    obtain ⟨x3_1, rfl, HA, HK1, ⟨m1, rfl⟩⟩ := hrel
    cases gk with
    | zero => exact absurd HA.out (by simp [letterboxref18_printed.l0])
    | succ k1 =>
      have H := HA.out
      clear HA
      simp only [letterboxref18_printed.l0] at H
      by_cases c2 : x3_1 < (a0.size : Int)
      · rw [if_pos c2] at H
        have c2b0 : decide (x3_1 < (a0.size : Int)) = true := decide_eq_true c2
        clear c2
        by_cases c3 : 0 ≤ x3_1
        · rw [if_pos c3] at H
          have c3b0 : decide (0 ≤ x3_1) = true := decide_eq_true c3
          clear c3
          by_cases c5 : (bt a0 x3_1) < 32
          · rw [if_pos c5] at H
            have c5b0 : decide ((bt a0 x3_1) < 32) = true := decide_eq_true c5
            clear c5
            obtain rfl := Option.some.inj H
            have p4 : 0 ≤ (x3_1 : Int) := of_decide_eq_true (by first | (with_reducible assumption) | assumption)
            have q4 : x3_1 < (a0.size : Int) := of_decide_eq_true (by first | (with_reducible assumption) | assumption)
            have hx4 := bt_at a0 x3_1
            replace p4 := eq_true p4
            replace q4 := eq_true q4
            go_wp2
            go_ret
            exact ⟨by first | rfl | (simp; done) | (simp [*]; done), by repeat (first | exact Drawn0.refl _ | apply Drawn0.step)⟩
          · rw [if_neg c5] at H
            have c5b0 : decide ((bt a0 x3_1) < 32) = false := decide_eq_false c5
            clear c5
            by_cases c7 : (bt a0 x3_1) > 126
            · rw [if_pos c7] at H
              have c7b0 : decide (126 < (bt a0 x3_1)) = true := decide_eq_true c7
              clear c7
              obtain rfl := Option.some.inj H
              have p4 : 0 ≤ (x3_1 : Int) := of_decide_eq_true (by first | (with_reducible assumption) | assumption)
              have q4 : x3_1 < (a0.size : Int) := of_decide_eq_true (by first | (with_reducible assumption) | assumption)
              have hx4 := bt_at a0 x3_1
              replace p4 := eq_true p4
              replace q4 := eq_true q4
              have p6 : 0 ≤ (x3_1 : Int) := of_decide_eq_true (by first | (with_reducible assumption) | assumption)
              have q6 : x3_1 < (a0.size : Int) := of_decide_eq_true (by first | (with_reducible assumption) | assumption)
              have hx6 := bt_at a0 x3_1
              replace p6 := eq_true p6
              replace q6 := eq_true q6
              go_wp2
              go_ret
              exact ⟨by first | rfl | (simp; done) | (simp [*]; done), by repeat (first | exact Drawn0.refl _ | apply Drawn0.step)⟩
            · rw [if_neg c7] at H
              have c7b0 : decide (126 < (bt a0 x3_1)) = false := decide_eq_false c7
              clear c7
              have H' := Aside0.mk H
              clear H
              have p4 : 0 ≤ (x3_1 : Int) := of_decide_eq_true (by first | (with_reducible assumption) | assumption)
              have q4 : x3_1 < (a0.size : Int) := of_decide_eq_true (by first | (with_reducible assumption) | assumption)
              have hx4 := bt_at a0 x3_1
              replace p4 := eq_true p4
              replace q4 := eq_true q4
              have p6 : 0 ≤ (x3_1 : Int) := of_decide_eq_true (by first | (with_reducible assumption) | assumption)
              have q6 : x3_1 < (a0.size : Int) := of_decide_eq_true (by first | (with_reducible assumption) | assumption)
              have hx6 := bt_at a0 x3_1
              replace p6 := eq_true p6
              replace q6 := eq_true q6
              go_wp2
              go_roundg k1
              case measure => have := HK1.out; omega
              case rel => exact ⟨(wrap64 (x3_1 + 1)), (by first | rfl | (simp; done) | (simp [*]; done)), H', ⟨by have := HK1.out; omega⟩, by repeat (first | exact Drawn0.refl _ | apply Drawn0.step)⟩
        · rw [if_neg c3] at H
          exact absurd H (by simp)
      · rw [if_neg c2] at H
        have c2b0 : decide (x3_1 < (a0.size : Int)) = false := decide_eq_false c2
        clear c2
        obtain rfl := Option.some.inj H
        go_wp2
        go_ret
        exact ⟨by first | rfl | (simp; done) | (simp [*]; done), by repeat (first | exact Drawn0.refl _ | apply Drawn0.step)⟩

/-! ### letterboxref07_Quoted: function 26 -/
def letterboxref07_Quoted.l0 : Nat → ByteArray → ByteArray → Int → Option (ByteArray)
  | 0, _, _, _ => none
  | k + 1, x0, x3, x4 => if x4 < (x0.size : Int) then (if 0 ≤ x4 then (if (bt x0 x4) = 34 then (if x3.size + 1 ≤ 9223372036854775807 then (if x4 ≤ (wrap64 (x4 + 1)) then (if (wrap64 (x4 + 1)) ≤ (x0.size : Int) then (if (x3 ++ (⟨#[92]⟩ : ByteArray)).size + (x0.extract (x4 : Int).toNat ((wrap64 (x4 + 1)) : Int).toNat).size ≤ 9223372036854775807 then (letterboxref07_Quoted.l0 k x0 ((x3 ++ (⟨#[92]⟩ : ByteArray)) ++ (x0.extract (x4 : Int).toNat ((wrap64 (x4 + 1)) : Int).toNat)) (wrap64 (x4 + 1))) else (none)) else (none)) else (none)) else (none)) else (if (bt x0 x4) = 92 then (if x3.size + 1 ≤ 9223372036854775807 then (if x4 ≤ (wrap64 (x4 + 1)) then (if (wrap64 (x4 + 1)) ≤ (x0.size : Int) then (if (x3 ++ (⟨#[92]⟩ : ByteArray)).size + (x0.extract (x4 : Int).toNat ((wrap64 (x4 + 1)) : Int).toNat).size ≤ 9223372036854775807 then (letterboxref07_Quoted.l0 k x0 ((x3 ++ (⟨#[92]⟩ : ByteArray)) ++ (x0.extract (x4 : Int).toNat ((wrap64 (x4 + 1)) : Int).toNat)) (wrap64 (x4 + 1))) else (none)) else (none)) else (none)) else (none)) else (if x4 ≤ (wrap64 (x4 + 1)) then (if (wrap64 (x4 + 1)) ≤ (x0.size : Int) then (if x3.size + (x0.extract (x4 : Int).toNat ((wrap64 (x4 + 1)) : Int).toNat).size ≤ 9223372036854775807 then (letterboxref07_Quoted.l0 k x0 (x3 ++ (x0.extract (x4 : Int).toNat ((wrap64 (x4 + 1)) : Int).toNat)) (wrap64 (x4 + 1))) else (none)) else (none)) else (none)))) else (none)) else (if x3.size + 1 ≤ 9223372036854775807 then (some (x3 ++ (⟨#[34]⟩ : ByteArray))) else (none))
def letterboxref07_Quoted.f (k : Nat) (a0 : ByteArray) : Option (ByteArray) := letterboxref07_Quoted.l0 k a0 (⟨#[34]⟩ : ByteArray) 0
theorem letterboxref07_Quoted.mono_l : ∀ k, (∀ y0 y1 y2, LeO (letterboxref07_Quoted.l0 k y0 y1 y2) (letterboxref07_Quoted.l0 (k + 1) y0 y1 y2))
  | 0 => fun _ _ _ r h => by simp [letterboxref07_Quoted.l0] at h
  | k + 1 => by
    have ih0 := letterboxref07_Quoted.mono_l k
    · intro y0 y1 y2
      unfold letterboxref07_Quoted.l0
      repeat' first
      | (with_reducible exact ih0 _ _ _)
      | (with_reducible exact LeO.refl _)
      | (with_reducible exact LeO.none _)
      | (with_reducible refine LeO.ite ?_ ?_)
      | (with_reducible refine LeO.bind ?_ (fun _ => ?_))
      | exact ih0 _ _ _
      | exact LeO.none _
      | refine LeO.ite ?_ ?_
      | refine LeO.bind ?_ (fun _ => ?_)
theorem letterboxref07_Quoted.mono : ∀ a0 k, LeO (letterboxref07_Quoted.f k a0) (letterboxref07_Quoted.f (k + 1) a0) := by
  intro a0 k
  have ih0 := letterboxref07_Quoted.mono_l k
  unfold letterboxref07_Quoted.f
  repeat' first
      | (with_reducible exact ih0 _ _ _)
      | (with_reducible exact LeO.refl _)
      | (with_reducible exact LeO.none _)
      | (with_reducible refine LeO.ite ?_ ?_)
      | (with_reducible refine LeO.bind ?_ (fun _ => ?_))
      | exact ih0 _ _ _
      | exact LeO.none _
      | refine LeO.ite ?_ ?_
      | refine LeO.bind ?_ (fun _ => ?_)
set_option maxHeartbeats 8000000 in
set_option maxRecDepth 100000 in
theorem letterboxref07_Quoted.calls (k : Nat) (a0 : ByteArray) (r : ByteArray) (w : World) (h : letterboxref07_Quoted.f k a0 = some r) :
    Calls Try.prog 26 #[.string a0] w fun e w' => e = .returned (.string r) ∧ Drawn0 w w' := by
  have H : (letterboxref07_Quoted.l0 k a0 (⟨#[34]⟩ : ByteArray) 0) = some r := h
  clear h
  have H' := Aside0.mk H
  clear H
  go_enter Try.func26, Try.ntmps26
  go_wp2
  go_loopg [3, 4] k (fun kq v3 v4 w' => ∃ (x3_1 : ByteArray) (x4_1 : Int), v3 = .string x3_1 ∧ v4 = .int .i64 x4_1 ∧ Aside0 (letterboxref07_Quoted.l0 kq a0 x3_1 x4_1 = some r) ∧ Aside0 (kq ≤ k) ∧ Drawn0 w w')
  case atStart => exact ⟨((⟨#[34]⟩ : ByteArray)), (0), (by first | rfl | (simp; done) | (simp [*]; done)), (by first | rfl | (simp; done) | (simp [*]; done)), H', ⟨Nat.le_refl _⟩, by repeat (first | exact Drawn0.refl _ | apply Drawn0.step)⟩
  case round =>
    clear H'
    obtain ⟨x3_1, x4_1, rfl, rfl, HA, HK1, ⟨m1, rfl⟩⟩ := hrel
    cases gk with
    | zero => exact absurd HA.out (by simp [letterboxref07_Quoted.l0])
    | succ k1 =>
      have H := HA.out
      clear HA
      simp only [letterboxref07_Quoted.l0] at H
      by_cases c2 : x4_1 < (a0.size : Int)
      · rw [if_pos c2] at H
        have c2b0 : decide (x4_1 < (a0.size : Int)) = true := decide_eq_true c2
        clear c2
        by_cases c3 : 0 ≤ x4_1
        · rw [if_pos c3] at H
          have c3b0 : decide (0 ≤ x4_1) = true := decide_eq_true c3
          clear c3
          by_cases c5 : (bt a0 x4_1) = 34
          · rw [if_pos c5] at H
            have c5b0 : ((bt a0 x4_1) == 34) = true := beq_iff_eq.mpr c5
            have c5b1 : ((bt a0 x4_1) != 34) = false := bne_eq_false_iff_eq.mpr c5
            clear c5
            by_cases c6 : x3_1.size + 1 ≤ 9223372036854775807
            · rw [if_pos c6] at H
              have c6b0 := eq_true c6
              have c6b1 : decide (x3_1.size + 1 ≤ 9223372036854775807) = true := decide_eq_true c6
              try have c6b2 : (9223372036854775807 < x3_1.size + 1) = False := eq_false (Nat.not_lt.2 c6)
              have c7b0 := eq_true (of_decide_eq_true (by first | (with_reducible assumption) | assumption) : 0 ≤ x4_1)
              by_cases c8 : x4_1 ≤ (wrap64 (x4_1 + 1))
              · rw [if_pos c8] at H
                have c8b0 := eq_true c8
                have c8b1 : decide (x4_1 ≤ (wrap64 (x4_1 + 1))) = true := decide_eq_true c8
                by_cases c9 : (wrap64 (x4_1 + 1)) ≤ (a0.size : Int)
                · rw [if_pos c9] at H
                  have c9b0 := eq_true c9
                  have c9b1 : decide ((wrap64 (x4_1 + 1)) ≤ (a0.size : Int)) = true := decide_eq_true c9
                  by_cases c10 : (x3_1 ++ (⟨#[92]⟩ : ByteArray)).size + (a0.extract (x4_1 : Int).toNat ((wrap64 (x4_1 + 1)) : Int).toNat).size ≤ 9223372036854775807
                  · rw [if_pos c10] at H
                    have c10b0 := eq_true c10
                    have c10b1 : decide ((x3_1 ++ (⟨#[92]⟩ : ByteArray)).size + (a0.extract (x4_1 : Int).toNat ((wrap64 (x4_1 + 1)) : Int).toNat).size ≤ 9223372036854775807) = true := decide_eq_true c10
                    try have c10b2 : (9223372036854775807 < (x3_1 ++ (⟨#[92]⟩ : ByteArray)).size + (a0.extract (x4_1 : Int).toNat ((wrap64 (x4_1 + 1)) : Int).toNat).size) = False := eq_false (Nat.not_lt.2 c10)
                    (try (have c10h := c10; simp only [ByteArray.size_append, ByteArray.size_extract, Int.toNat_natCast, Nat.sub_zero, Nat.min_self, ByteArray.extract_zero_size, show (⟨#[92]⟩ : ByteArray).size = 1 from rfl] at c10h; have c10b7 := eq_false (Nat.not_lt.2 c10h); clear c10h))
                    try have c10b5 : (9223372036854775807 < (x3_1.size + 1) + (((wrap64 (x4_1 + 1)) : Int).toNat - (x4_1 : Int).toNat)) = False := eq_false (Nat.not_lt.2 (by have h_ := c10; (try have e0_ : (wrap64 (x4_1 + 1)) ≤ (a0.size : Int) := of_decide_eq_true (by first | (with_reducible assumption) | assumption)); simp only [ByteArray.size_append, ByteArray.size_extract, show (⟨#[92]⟩ : ByteArray).size = 1 from rfl] at h_ ⊢; omega))
                    have H' := Aside0.mk H
                    clear H
                    have p4 : 0 ≤ (x4_1 : Int) := of_decide_eq_true (by first | (with_reducible assumption) | assumption)
                    have q4 : x4_1 < (a0.size : Int) := of_decide_eq_true (by first | (with_reducible assumption) | assumption)
                    have hx4 := bt_at a0 x4_1
                    replace p4 := eq_true p4
                    replace q4 := eq_true q4
                    go_wp2
                    go_roundg k1
                    case measure => have := HK1.out; omega
                    case rel => exact ⟨((x3_1 ++ (⟨#[92]⟩ : ByteArray)) ++ (a0.extract (x4_1 : Int).toNat ((wrap64 (x4_1 + 1)) : Int).toNat)), (wrap64 (x4_1 + 1)), (by first | rfl | (simp; done) | (simp [*]; done)), (by first | rfl | (simp; done) | (simp [*]; done)), H', ⟨by have := HK1.out; omega⟩, by repeat (first | exact Drawn0.refl _ | apply Drawn0.step)⟩
                  · rw [if_neg c10] at H
                    exact absurd H (by simp)
                · rw [if_neg c9] at H
                  exact absurd H (by simp)
              · rw [if_neg c8] at H
                exact absurd H (by simp)
            · rw [if_neg c6] at H
              exact absurd H (by simp)
          · rw [if_neg c5] at H
            have c5b0 : ((bt a0 x4_1) == 34) = false := beq_eq_false_iff_ne.mpr c5
            have c5b1 : ((bt a0 x4_1) != 34) = true := bne_iff_ne.mpr c5
            by_cases c12 : (bt a0 x4_1) = 92
            · rw [if_pos c12] at H
              have c12b0 : ((bt a0 x4_1) == 92) = true := beq_iff_eq.mpr c12
              have c12b1 : ((bt a0 x4_1) != 92) = false := bne_eq_false_iff_eq.mpr c12
              clear c12
              by_cases c13 : x3_1.size + 1 ≤ 9223372036854775807
              · rw [if_pos c13] at H
                have c13b0 := eq_true c13
                have c13b1 : decide (x3_1.size + 1 ≤ 9223372036854775807) = true := decide_eq_true c13
                try have c13b2 : (9223372036854775807 < x3_1.size + 1) = False := eq_false (Nat.not_lt.2 c13)
                have c14b0 := eq_true (of_decide_eq_true (by first | (with_reducible assumption) | assumption) : 0 ≤ x4_1)
                by_cases c15 : x4_1 ≤ (wrap64 (x4_1 + 1))
                · rw [if_pos c15] at H
                  have c15b0 := eq_true c15
                  have c15b1 : decide (x4_1 ≤ (wrap64 (x4_1 + 1))) = true := decide_eq_true c15
                  by_cases c16 : (wrap64 (x4_1 + 1)) ≤ (a0.size : Int)
                  · rw [if_pos c16] at H
                    have c16b0 := eq_true c16
                    have c16b1 : decide ((wrap64 (x4_1 + 1)) ≤ (a0.size : Int)) = true := decide_eq_true c16
                    by_cases c17 : (x3_1 ++ (⟨#[92]⟩ : ByteArray)).size + (a0.extract (x4_1 : Int).toNat ((wrap64 (x4_1 + 1)) : Int).toNat).size ≤ 9223372036854775807
                    · rw [if_pos c17] at H
                      have c17b0 := eq_true c17
                      have c17b1 : decide ((x3_1 ++ (⟨#[92]⟩ : ByteArray)).size + (a0.extract (x4_1 : Int).toNat ((wrap64 (x4_1 + 1)) : Int).toNat).size ≤ 9223372036854775807) = true := decide_eq_true c17
                      try have c17b2 : (9223372036854775807 < (x3_1 ++ (⟨#[92]⟩ : ByteArray)).size + (a0.extract (x4_1 : Int).toNat ((wrap64 (x4_1 + 1)) : Int).toNat).size) = False := eq_false (Nat.not_lt.2 c17)
                      (try (have c17h := c17; simp only [ByteArray.size_append, ByteArray.size_extract, Int.toNat_natCast, Nat.sub_zero, Nat.min_self, ByteArray.extract_zero_size, show (⟨#[92]⟩ : ByteArray).size = 1 from rfl] at c17h; have c17b7 := eq_false (Nat.not_lt.2 c17h); clear c17h))
                      try have c17b5 : (9223372036854775807 < (x3_1.size + 1) + (((wrap64 (x4_1 + 1)) : Int).toNat - (x4_1 : Int).toNat)) = False := eq_false (Nat.not_lt.2 (by have h_ := c17; (try have e0_ : (wrap64 (x4_1 + 1)) ≤ (a0.size : Int) := of_decide_eq_true (by first | (with_reducible assumption) | assumption)); simp only [ByteArray.size_append, ByteArray.size_extract, show (⟨#[92]⟩ : ByteArray).size = 1 from rfl] at h_ ⊢; omega))
                      have H' := Aside0.mk H
                      clear H
                      have p4 : 0 ≤ (x4_1 : Int) := of_decide_eq_true (by first | (with_reducible assumption) | assumption)
                      have q4 : x4_1 < (a0.size : Int) := of_decide_eq_true (by first | (with_reducible assumption) | assumption)
                      have hx4 := bt_at a0 x4_1
                      replace p4 := eq_true p4
                      replace q4 := eq_true q4
                      have p11 : 0 ≤ (x4_1 : Int) := of_decide_eq_true (by first | (with_reducible assumption) | assumption)
                      have q11 : x4_1 < (a0.size : Int) := of_decide_eq_true (by first | (with_reducible assumption) | assumption)
                      have hx11 := bt_at a0 x4_1
                      replace p11 := eq_true p11
                      replace q11 := eq_true q11
                      go_wp2
                      go_roundg k1
                      case measure => have := HK1.out; omega
                      case rel => exact ⟨((x3_1 ++ (⟨#[92]⟩ : ByteArray)) ++ (a0.extract (x4_1 : Int).toNat ((wrap64 (x4_1 + 1)) : Int).toNat)), (wrap64 (x4_1 + 1)), (by first | rfl | (simp; done) | (simp [*]; done)), (by first | rfl | (simp; done) | (simp [*]; done)), H', ⟨by have := HK1.out; omega⟩, by repeat (first | exact Drawn0.refl _ | apply Drawn0.step)⟩
                    · rw [if_neg c17] at H
                      exact absurd H (by simp)
                  · rw [if_neg c16] at H
                    exact absurd H (by simp)
                · rw [if_neg c15] at H
                  exact absurd H (by simp)
              · rw [if_neg c13] at H
                exact absurd H (by simp)
            · rw [if_neg c12] at H
              have c12b0 : ((bt a0 x4_1) == 92) = false := beq_eq_false_iff_ne.mpr c12
              have c12b1 : ((bt a0 x4_1) != 92) = true := bne_iff_ne.mpr c12
              have c18b0 := eq_true (of_decide_eq_true (by first | (with_reducible assumption) | assumption) : 0 ≤ x4_1)
              by_cases c19 : x4_1 ≤ (wrap64 (x4_1 + 1))
              · rw [if_pos c19] at H
                have c19b0 := eq_true c19
                have c19b1 : decide (x4_1 ≤ (wrap64 (x4_1 + 1))) = true := decide_eq_true c19
                by_cases c20 : (wrap64 (x4_1 + 1)) ≤ (a0.size : Int)
                · rw [if_pos c20] at H
                  have c20b0 := eq_true c20
                  have c20b1 : decide ((wrap64 (x4_1 + 1)) ≤ (a0.size : Int)) = true := decide_eq_true c20
                  by_cases c21 : x3_1.size + (a0.extract (x4_1 : Int).toNat ((wrap64 (x4_1 + 1)) : Int).toNat).size ≤ 9223372036854775807
                  · rw [if_pos c21] at H
                    have c21b0 := eq_true c21
                    have c21b1 : decide (x3_1.size + (a0.extract (x4_1 : Int).toNat ((wrap64 (x4_1 + 1)) : Int).toNat).size ≤ 9223372036854775807) = true := decide_eq_true c21
                    try have c21b2 : (9223372036854775807 < x3_1.size + (a0.extract (x4_1 : Int).toNat ((wrap64 (x4_1 + 1)) : Int).toNat).size) = False := eq_false (Nat.not_lt.2 c21)
                    (try (have c21h := c21; simp only [ByteArray.size_append, ByteArray.size_extract, Int.toNat_natCast, Nat.sub_zero, Nat.min_self, ByteArray.extract_zero_size] at c21h; have c21b7 := eq_false (Nat.not_lt.2 c21h); clear c21h))
                    try have c21b5 : (9223372036854775807 < x3_1.size + (((wrap64 (x4_1 + 1)) : Int).toNat - (x4_1 : Int).toNat)) = False := eq_false (Nat.not_lt.2 (by have h_ := c21; (try have e0_ : (wrap64 (x4_1 + 1)) ≤ (a0.size : Int) := of_decide_eq_true (by first | (with_reducible assumption) | assumption)); simp only [ByteArray.size_append, ByteArray.size_extract] at h_ ⊢; omega))
                    have H' := Aside0.mk H
                    clear H
                    have p4 : 0 ≤ (x4_1 : Int) := of_decide_eq_true (by first | (with_reducible assumption) | assumption)
                    have q4 : x4_1 < (a0.size : Int) := of_decide_eq_true (by first | (with_reducible assumption) | assumption)
                    have hx4 := bt_at a0 x4_1
                    replace p4 := eq_true p4
                    replace q4 := eq_true q4
                    have p11 : 0 ≤ (x4_1 : Int) := of_decide_eq_true (by first | (with_reducible assumption) | assumption)
                    have q11 : x4_1 < (a0.size : Int) := of_decide_eq_true (by first | (with_reducible assumption) | assumption)
                    have hx11 := bt_at a0 x4_1
                    replace p11 := eq_true p11
                    replace q11 := eq_true q11
                    go_wp2
                    go_roundg k1
                    case measure => have := HK1.out; omega
                    case rel => exact ⟨(x3_1 ++ (a0.extract (x4_1 : Int).toNat ((wrap64 (x4_1 + 1)) : Int).toNat)), (wrap64 (x4_1 + 1)), (by first | rfl | (simp; done) | (simp [*]; done)), (by first | rfl | (simp; done) | (simp [*]; done)), H', ⟨by have := HK1.out; omega⟩, by repeat (first | exact Drawn0.refl _ | apply Drawn0.step)⟩
                  · rw [if_neg c21] at H
                    exact absurd H (by simp)
                · rw [if_neg c20] at H
                  exact absurd H (by simp)
              · rw [if_neg c19] at H
                exact absurd H (by simp)
        · rw [if_neg c3] at H
          exact absurd H (by simp)
      · rw [if_neg c2] at H
        have c2b0 : decide (x4_1 < (a0.size : Int)) = false := decide_eq_false c2
        clear c2
        by_cases c22 : x3_1.size + 1 ≤ 9223372036854775807
        · rw [if_pos c22] at H
          have c22b0 := eq_true c22
          have c22b1 : decide (x3_1.size + 1 ≤ 9223372036854775807) = true := decide_eq_true c22
          try have c22b2 : (9223372036854775807 < x3_1.size + 1) = False := eq_false (Nat.not_lt.2 c22)
          obtain rfl := Option.some.inj H
          go_wp2
          go_ret
          exact ⟨by first | rfl | (simp; done) | (simp [*]; done), by repeat (first | exact Drawn0.refl _ | apply Drawn0.step)⟩
        · rw [if_neg c22] at H
          exact absurd H (by simp)

/-! ### letterboxref01_In: function 27 -/
def letterboxref01_In.l0 : Nat → ByteArray → Int → Int → Option (Bool)
  | 0, _, _, _ => none
  | k + 1, x0, x1, x5 => if x5 < (x0.size : Int) then (if 0 ≤ x5 then (if (bt x0 x5) = x1 then (some true) else (letterboxref01_In.l0 k x0 x1 (wrap64 (x5 + 1)))) else (none)) else (some false)
def letterboxref01_In.f (k : Nat) (a0 : ByteArray) (a1 : Int) : Option (Bool) := letterboxref01_In.l0 k a0 a1 0
theorem letterboxref01_In.mono_l : ∀ k, (∀ y0 y1 y2, LeO (letterboxref01_In.l0 k y0 y1 y2) (letterboxref01_In.l0 (k + 1) y0 y1 y2))
  | 0 => fun _ _ _ r h => by simp [letterboxref01_In.l0] at h
  | k + 1 => by
    have ih0 := letterboxref01_In.mono_l k
    · intro y0 y1 y2
      unfold letterboxref01_In.l0
      repeat' first
      | (with_reducible exact ih0 _ _ _)
      | (with_reducible exact LeO.refl _)
      | (with_reducible exact LeO.none _)
      | (with_reducible refine LeO.ite ?_ ?_)
      | (with_reducible refine LeO.bind ?_ (fun _ => ?_))
      | exact ih0 _ _ _
      | exact LeO.none _
      | refine LeO.ite ?_ ?_
      | refine LeO.bind ?_ (fun _ => ?_)
theorem letterboxref01_In.mono : ∀ a0 a1 k, LeO (letterboxref01_In.f k a0 a1) (letterboxref01_In.f (k + 1) a0 a1) := by
  intro a0 a1 k
  have ih0 := letterboxref01_In.mono_l k
  unfold letterboxref01_In.f
  repeat' first
      | (with_reducible exact ih0 _ _ _)
      | (with_reducible exact LeO.refl _)
      | (with_reducible exact LeO.none _)
      | (with_reducible refine LeO.ite ?_ ?_)
      | (with_reducible refine LeO.bind ?_ (fun _ => ?_))
      | exact ih0 _ _ _
      | exact LeO.none _
      | refine LeO.ite ?_ ?_
      | refine LeO.bind ?_ (fun _ => ?_)
set_option maxHeartbeats 8000000 in
set_option maxRecDepth 100000 in
theorem letterboxref01_In.calls (k : Nat) (a0 : ByteArray) (a1 : Int) (r : Bool) (w : World) (h : letterboxref01_In.f k a0 a1 = some r) :
    Calls Try.prog 27 #[.string a0, .int .u8 a1] w fun e w' => e = .returned (.bool r) ∧ Drawn0 w w' := by
  have H : (letterboxref01_In.l0 k a0 a1 0) = some r := h
  clear h
  have H' := Aside0.mk H
  clear H
  go_enter Try.func27, Try.ntmps27
  go_wp2
  go_loopg [5] k (fun kq v5 w' => ∃ (x5_1 : Int), v5 = .int .i64 x5_1 ∧ Aside0 (letterboxref01_In.l0 kq a0 a1 x5_1 = some r) ∧ Aside0 (kq ≤ k) ∧ Drawn0 w w')
  case atStart => exact ⟨(0), (by first | rfl | (simp; done) | (simp [*]; done)), H', ⟨Nat.le_refl _⟩, by repeat (first | exact Drawn0.refl _ | apply Drawn0.step)⟩
  case round =>
    clear H'
    try clear c2
    try clear p2
    obtain ⟨x5_1, rfl, HA, HK1, ⟨m1, rfl⟩⟩ := hrel
    cases gk with
    | zero => exact absurd HA.out (by simp [letterboxref01_In.l0])
    | succ k1 =>
      have H := HA.out
      clear HA
      simp only [letterboxref01_In.l0] at H
      by_cases c3 : x5_1 < (a0.size : Int)
      · rw [if_pos c3] at H
        have c3b0 : decide (x5_1 < (a0.size : Int)) = true := decide_eq_true c3
        clear c3
        by_cases c4 : 0 ≤ x5_1
        · rw [if_pos c4] at H
          have c4b0 : decide (0 ≤ x5_1) = true := decide_eq_true c4
          clear c4
          by_cases c6 : (bt a0 x5_1) = a1
          · rw [if_pos c6] at H
            have c6b0 : ((bt a0 x5_1) == a1) = true := beq_iff_eq.mpr c6
            have c6b1 : ((bt a0 x5_1) != a1) = false := bne_eq_false_iff_eq.mpr c6
            clear c6
            obtain rfl := Option.some.inj H
            have p5 : 0 ≤ (x5_1 : Int) := of_decide_eq_true (by first | (with_reducible assumption) | assumption)
            have q5 : x5_1 < (a0.size : Int) := of_decide_eq_true (by first | (with_reducible assumption) | assumption)
            have hx5 := bt_at a0 x5_1
            replace p5 := eq_true p5
            replace q5 := eq_true q5
            go_wp2
            go_ret
            exact ⟨by first | rfl | (simp; done) | (simp [*]; done), by repeat (first | exact Drawn0.refl _ | apply Drawn0.step)⟩
          · rw [if_neg c6] at H
            have c6b0 : ((bt a0 x5_1) == a1) = false := beq_eq_false_iff_ne.mpr c6
            have c6b1 : ((bt a0 x5_1) != a1) = true := bne_iff_ne.mpr c6
            have H' := Aside0.mk H
            clear H
            have p5 : 0 ≤ (x5_1 : Int) := of_decide_eq_true (by first | (with_reducible assumption) | assumption)
            have q5 : x5_1 < (a0.size : Int) := of_decide_eq_true (by first | (with_reducible assumption) | assumption)
            have hx5 := bt_at a0 x5_1
            replace p5 := eq_true p5
            replace q5 := eq_true q5
            go_wp2
            go_roundg k1
            case measure => have := HK1.out; omega
            case rel => exact ⟨(wrap64 (x5_1 + 1)), (by first | rfl | (simp; done) | (simp [*]; done)), H', ⟨by have := HK1.out; omega⟩, by repeat (first | exact Drawn0.refl _ | apply Drawn0.step)⟩
        · rw [if_neg c4] at H
          exact absurd H (by simp)
      · rw [if_neg c3] at H
        have c3b0 : decide (x5_1 < (a0.size : Int)) = false := decide_eq_false c3
        clear c3
        obtain rfl := Option.some.inj H
        go_wp2
        go_ret
        exact ⟨by first | rfl | (simp; done) | (simp [*]; done), by repeat (first | exact Drawn0.refl _ | apply Drawn0.step)⟩

/-! ### letterboxref01_up: function 35 -/
def letterboxref01_up.f : Nat → Int → Option (ByteArray)
  | 0, _ => none
  | k + 1, a0 => if a0 < 10 then (if 0 ≤ a0 then (if a0 ≤ (IntKind.u64.wrap (a0 + 1)) then (if (IntKind.u64.wrap (a0 + 1)) ≤ 10 then (some ((⟨#[48, 49, 50, 51, 52, 53, 54, 55, 56, 57]⟩ : ByteArray).extract (a0 : Int).toNat ((IntKind.u64.wrap (a0 + 1)) : Int).toNat)) else (none)) else (none)) else (none)) else ((letterboxref01_up.f k (IntKind.u64.wrap (Int.tdiv a0 10))).bind fun t199 => (if 0 ≤ (Int.tmod a0 10) then (if (Int.tmod a0 10) ≤ (IntKind.u64.wrap ((Int.tmod a0 10) + 1)) then (if (IntKind.u64.wrap ((Int.tmod a0 10) + 1)) ≤ 10 then (if t199.size + ((⟨#[48, 49, 50, 51, 52, 53, 54, 55, 56, 57]⟩ : ByteArray).extract ((Int.tmod a0 10) : Int).toNat ((IntKind.u64.wrap ((Int.tmod a0 10) + 1)) : Int).toNat).size ≤ 9223372036854775807 then (some (t199 ++ ((⟨#[48, 49, 50, 51, 52, 53, 54, 55, 56, 57]⟩ : ByteArray).extract ((Int.tmod a0 10) : Int).toNat ((IntKind.u64.wrap ((Int.tmod a0 10) + 1)) : Int).toNat))) else (none)) else (none)) else (none)) else (none)))
theorem letterboxref01_up.mono_l : ∀ k, (∀ y0, LeO (letterboxref01_up.f k y0) (letterboxref01_up.f (k + 1) y0))
  | 0 => fun _ r h => by simp [letterboxref01_up.f] at h
  | k + 1 => by
    have ih0 := letterboxref01_up.mono_l k
    · intro y0
      unfold letterboxref01_up.f
      repeat' first
      | (with_reducible exact ih0 _)
      | (with_reducible exact LeO.refl _)
      | (with_reducible exact LeO.none _)
      | (with_reducible refine LeO.ite ?_ ?_)
      | (with_reducible refine LeO.bind ?_ (fun _ => ?_))
      | exact ih0 _
      | exact LeO.none _
      | refine LeO.ite ?_ ?_
      | refine LeO.bind ?_ (fun _ => ?_)
theorem letterboxref01_up.mono : ∀ a0 k, LeO (letterboxref01_up.f k a0) (letterboxref01_up.f (k + 1) a0) := by
  intro a0 k
  have ih0 := letterboxref01_up.mono_l k
  exact ih0 a0
def letterboxref01_up.T3 : Bool × List (List Nat × List Nat) := (true, [([], []), ([0], [0]), ([1], [1]), ([], []), ([3], [3]), ([], []), ([5], [5]), ([6], [6]), ([4, 7], [4, 7]), ([2, 8], [2, 8]), ([9, 2, 0, 1, 2, 3, 4, 5, 6, 7, 8, 9], [9])])
def letterboxref01_up.B3 : List Nat := [0, 1, 3, 0, 8, 0, 32, 96, 248, 511, 1023]
theorem letterboxref01_up.tab3 : rtab .any (opsOf Try.f35 3) = letterboxref01_up.T3 := by kernel_rfl
theorem letterboxref01_up.bits3 : waitsOk letterboxref01_up.T3.2 letterboxref01_up.B3 = true := by kernel_rfl
set_option maxHeartbeats 8000000 in
set_option maxRecDepth 100000 in
theorem letterboxref01_up.calls (k : Nat) : ∀ (a0 : Int) (r : ByteArray) (w : World) (h : letterboxref01_up.f k a0 = some r),
    Calls Try.prog 35 #[.int .u64 a0] w fun e w' => e = .returned (.string r) ∧ Below w.heap.size w w' := by
  induction k using Nat.strongRecOn with
  | _ k ih =>
  intro a0 r w h
  cases k with
  | zero => exact absurd h (by simp [letterboxref01_up.f])
  | succ k =>
  simp only [letterboxref01_up.f] at h
  have HB := Aside0.mk (Below.refl w.heap.size w)
  have H : (if a0 < 10 then (if 0 ≤ a0 then (if a0 ≤ (IntKind.u64.wrap (a0 + 1)) then (if (IntKind.u64.wrap (a0 + 1)) ≤ 10 then (some ((⟨#[48, 49, 50, 51, 52, 53, 54, 55, 56, 57]⟩ : ByteArray).extract (a0 : Int).toNat ((IntKind.u64.wrap (a0 + 1)) : Int).toNat)) else (none)) else (none)) else (none)) else ((letterboxref01_up.f k (IntKind.u64.wrap (Int.tdiv a0 10))).bind fun t199 => (if 0 ≤ (Int.tmod a0 10) then (if (Int.tmod a0 10) ≤ (IntKind.u64.wrap ((Int.tmod a0 10) + 1)) then (if (IntKind.u64.wrap ((Int.tmod a0 10) + 1)) ≤ 10 then (if t199.size + ((⟨#[48, 49, 50, 51, 52, 53, 54, 55, 56, 57]⟩ : ByteArray).extract ((Int.tmod a0 10) : Int).toNat ((IntKind.u64.wrap ((Int.tmod a0 10) + 1)) : Int).toNat).size ≤ 9223372036854775807 then (some (t199 ++ ((⟨#[48, 49, 50, 51, 52, 53, 54, 55, 56, 57]⟩ : ByteArray).extract ((Int.tmod a0 10) : Int).toNat ((IntKind.u64.wrap ((Int.tmod a0 10) + 1)) : Int).toNat))) else (none)) else (none)) else (none)) else (none)))) = some r := h
  clear h
  by_cases c2 : a0 < 10
  · rw [if_pos c2] at H
    have c2b0 : decide (a0 < 10) = true := decide_eq_true c2
    clear c2
    by_cases c3 : 0 ≤ a0
    · rw [if_pos c3] at H
      have c3b0 := eq_true c3
      have c3b1 : decide (0 ≤ a0) = true := decide_eq_true c3
      clear c3
      by_cases c4 : a0 ≤ (IntKind.u64.wrap (a0 + 1))
      · rw [if_pos c4] at H
        have c4b0 := eq_true c4
        have c4b1 : decide (a0 ≤ (IntKind.u64.wrap (a0 + 1))) = true := decide_eq_true c4
        by_cases c5 : (IntKind.u64.wrap (a0 + 1)) ≤ 10
        · rw [if_pos c5] at H
          have c5b0 := eq_true c5
          have c5b1 : decide ((IntKind.u64.wrap (a0 + 1)) ≤ 10) = true := decide_eq_true c5
          obtain rfl := Option.some.inj H
          go_enter Try.func35, Try.ntmps35
          go_wp2
          go_ret
          exact ⟨by first | rfl | (simp [errW_none, errW_some] <;> rfl) | (simp [*, errW_none, errW_some] <;> rfl), by repeat (first | (with_reducible first | exact HB.out | apply below_alloc | apply pw_below_drewN | apply below_drew1) | exact HB.out)⟩
        · rw [if_neg c5] at H
          exact absurd H (by simp)
      · rw [if_neg c4] at H
        exact absurd H (by simp)
    · rw [if_neg c3] at H
      exact absurd H (by simp)
  · rw [if_neg c2] at H
    have c2b0 : decide (a0 < 10) = false := decide_eq_false c2
    clear c2
    replace H := Option.bind_eq_some_iff.mp H
    obtain ⟨t199, A60, H⟩ := H
    replace H : (if 0 ≤ (Int.tmod a0 10) then (if (Int.tmod a0 10) ≤ (IntKind.u64.wrap ((Int.tmod a0 10) + 1)) then (if (IntKind.u64.wrap ((Int.tmod a0 10) + 1)) ≤ 10 then (if t199.size + ((⟨#[48, 49, 50, 51, 52, 53, 54, 55, 56, 57]⟩ : ByteArray).extract ((Int.tmod a0 10) : Int).toNat ((IntKind.u64.wrap ((Int.tmod a0 10) + 1)) : Int).toNat).size ≤ 9223372036854775807 then (some (t199 ++ ((⟨#[48, 49, 50, 51, 52, 53, 54, 55, 56, 57]⟩ : ByteArray).extract ((Int.tmod a0 10) : Int).toNat ((IntKind.u64.wrap ((Int.tmod a0 10) + 1)) : Int).toNat))) else (none)) else (none)) else (none)) else (none)) = some r := H
    have A6 := Aside0.mk A60
    clear A60
    obtain ⟨ji7, hji7⟩ : ∃ j_ : Int, (Int.tmod a0 10) = j_ := ⟨_, rfl⟩
    replace H : (if 0 ≤ (ji7) then (if (ji7) ≤ (IntKind.u64.wrap ((ji7) + 1)) then (if (IntKind.u64.wrap ((ji7) + 1)) ≤ 10 then (if t199.size + ((⟨#[48, 49, 50, 51, 52, 53, 54, 55, 56, 57]⟩ : ByteArray).extract ((ji7) : Int).toNat ((IntKind.u64.wrap ((ji7) + 1)) : Int).toNat).size ≤ 9223372036854775807 then (some (t199 ++ ((⟨#[48, 49, 50, 51, 52, 53, 54, 55, 56, 57]⟩ : ByteArray).extract ((ji7) : Int).toNat ((IntKind.u64.wrap ((ji7) + 1)) : Int).toNat))) else (none)) else (none)) else (none)) else (none)) = some r := by first | (rw [hji7] at H; exact H) | (simp only [hji7] at H ⊢; exact H)
    (try rw [hji7] at A6)
    by_cases c8 : 0 ≤ (ji7)
    · rw [if_pos c8] at H
      have c8b0 := eq_true c8
      have c8b1 : decide (0 ≤ (ji7)) = true := decide_eq_true c8
      clear c8
      by_cases c9 : (ji7) ≤ (IntKind.u64.wrap ((ji7) + 1))
      · rw [if_pos c9] at H
        have c9b0 := eq_true c9
        have c9b1 : decide ((ji7) ≤ (IntKind.u64.wrap ((ji7) + 1))) = true := decide_eq_true c9
        by_cases c10 : (IntKind.u64.wrap ((ji7) + 1)) ≤ 10
        · rw [if_pos c10] at H
          have c10b0 := eq_true c10
          have c10b1 : decide ((IntKind.u64.wrap ((ji7) + 1)) ≤ 10) = true := decide_eq_true c10
          by_cases c11 : t199.size + ((⟨#[48, 49, 50, 51, 52, 53, 54, 55, 56, 57]⟩ : ByteArray).extract ((ji7) : Int).toNat ((IntKind.u64.wrap ((ji7) + 1)) : Int).toNat).size ≤ 9223372036854775807
          · rw [if_pos c11] at H
            have c11b0 := eq_true c11
            have c11b1 : decide (t199.size + ((⟨#[48, 49, 50, 51, 52, 53, 54, 55, 56, 57]⟩ : ByteArray).extract ((ji7) : Int).toNat ((IntKind.u64.wrap ((ji7) + 1)) : Int).toNat).size ≤ 9223372036854775807) = true := decide_eq_true c11
            try have c11b2 : (9223372036854775807 < t199.size + ((⟨#[48, 49, 50, 51, 52, 53, 54, 55, 56, 57]⟩ : ByteArray).extract ((ji7) : Int).toNat ((IntKind.u64.wrap ((ji7) + 1)) : Int).toNat).size) = False := eq_false (Nat.not_lt.2 c11)
            (try (have c11h := c11; simp only [ByteArray.size_append, ByteArray.size_extract, Int.toNat_natCast, Nat.sub_zero, Nat.min_self, ByteArray.extract_zero_size, show (⟨#[48, 49, 50, 51, 52, 53, 54, 55, 56, 57]⟩ : ByteArray).size = 10 from rfl] at c11h; have c11b7 := eq_false (Nat.not_lt.2 c11h); clear c11h))
            try have c11b5 : (9223372036854775807 < t199.size + (((IntKind.u64.wrap ((ji7) + 1)) : Int).toNat - ((ji7) : Int).toNat)) = False := eq_false (Nat.not_lt.2 (by have h_ := c11; simp only [ByteArray.size_append, ByteArray.size_extract, show (⟨#[48, 49, 50, 51, 52, 53, 54, 55, 56, 57]⟩ : ByteArray).size = 10 from rfl] at h_ ⊢; omega))
            obtain rfl := Option.some.inj H
            go_enter Try.func35, Try.ntmps35
            try go_wp2
            have n0_ := Aside0.mk (below_drew1 HB.out)
            clear HB
            have HB := n0_
            clear n0_
            refine start_ (n := 11) (S := fun w' => True) (ds := []) #[false, false, false, false, false, false, false, false, false, false, false] (by kernel_rfl) rfl rfl trivial (fun hHeld => ?_); refine with_tabW letterboxref01_up.tab3 letterboxref01_up.bits3 (fun HT_ HW_ => ?_)
            generalize w.drew = w12 at HB hHeld ⊢
            refine pure_ (i := 0) (N := some 9) (v := ?_) (a' := ?_) #[true, false, false, false, false, false, false, false, false, false, false] rfl rfl (any_of HT_.out (by kernel_rfl)) (fun _ _ _ h => h) (Or.inl ⟨by rfl, ?_⟩) ?_ ?_
            rotate_left
            · intro w'
              go_simp
              with_reducible rfl
            rotate_left
            · simp only [Act.put, List.setIfInBounds_toArray, List.set_cons_zero, List.set_cons_succ, i64_w, i32_w]
              rfl
            refine pure_ (i := 1) (N := some 10) (v := ?_) (a' := ?_) #[true, true, false, false, false, false, false, false, false, false, false] rfl rfl (any_of HT_.out (by kernel_rfl)) (fun _ _ _ h => h) (Or.inl ⟨by rfl, ?_⟩) ?_ ?_
            rotate_left
            · intro w'
              go_simp
              with_reducible rfl
            rotate_left
            · simp only [Act.put, List.setIfInBounds_toArray, List.set_cons_zero, List.set_cons_succ, i64_w, i32_w]
              rfl
            refine pure_ (i := 3) (N := some 12) (v := ?_) (a' := ?_) #[true, true, false, true, false, false, false, false, false, false, false] rfl rfl (any_of HT_.out (by kernel_rfl)) (fun _ _ _ h => h) (Or.inl ⟨by rfl, ?_⟩) ?_ ?_
            rotate_left
            · intro w'
              go_simp
              with_reducible rfl
            rotate_left
            · simp only [Act.put, List.setIfInBounds_toArray, List.set_cons_zero, List.set_cons_succ, i64_w, i32_w]
              rfl
            refine pure_ (i := 4) (N := some 13) (v := ?_) (a' := ?_) #[true, true, false, true, true, false, false, false, false, false, false] rfl rfl (any_of HT_.out (by kernel_rfl)) (fun _ _ _ h => h) (Or.inl ⟨by rfl, ?_⟩) ?_ ?_
            rotate_left
            · intro w'
              go_simp
              with_reducible rfl
            rotate_left
            · simp only [Act.put, List.setIfInBounds_toArray, List.set_cons_zero, List.set_cons_succ, i64_w, i32_w]
              rfl
            refine pure_ (i := 5) (N := some 14) (v := ?_) (a' := ?_) #[true, true, false, true, true, true, false, false, false, false, false] rfl rfl (any_of HT_.out (by kernel_rfl)) (fun _ _ _ h => h) (Or.inl ⟨by rfl, ?_⟩) ?_ ?_
            rotate_left
            · intro w'
              go_simp
              with_reducible rfl
            rotate_left
            · simp only [Act.put, List.setIfInBounds_toArray, List.set_cons_zero, List.set_cons_succ, i64_w, i32_w]
              rfl
            refine pure_ (i := 6) (N := some 15) (v := ?_) (a' := ?_) #[true, true, false, true, true, true, true, false, false, false, false] rfl rfl (any_of HT_.out (by kernel_rfl)) (fun _ _ _ h => h) (Or.inl ⟨by rfl, ?_⟩) ?_ ?_
            rotate_left
            · intro w'
              go_simp
              with_reducible rfl
            rotate_left
            · simp only [Act.put, List.setIfInBounds_toArray, List.set_cons_zero, List.set_cons_succ, i64_w, i32_w]
              rfl
            refine pure_ (i := 7) (N := some 16) (v := ?_) (a' := ?_) #[true, true, false, true, true, true, true, true, false, false, false] rfl rfl (any_of HT_.out (by kernel_rfl)) (fun _ _ _ h => h) (Or.inl ⟨by rfl, ?_⟩) ?_ ?_
            rotate_left
            · intro w'
              go_simp
              with_reducible rfl
            rotate_left
            · simp only [Act.put, List.setIfInBounds_toArray, List.set_cons_zero, List.set_cons_succ, i64_w, i32_w]
              rfl
            refine pure_ (i := 8) (N := some 17) (v := ?_) (a' := ?_) #[true, true, false, true, true, true, true, true, true, false, false] rfl rfl (any_of HT_.out (by kernel_rfl)) (fun _ _ _ h => h) (Or.inl ⟨by rfl, ?_⟩) ?_ ?_
            rotate_left
            · intro w'
              go_simp
              with_reducible rfl
            rotate_left
            · simp only [Act.put, List.setIfInBounds_toArray, List.set_cons_zero, List.set_cons_succ, i64_w, i32_w]
              rfl
            refine one_ (i := 2) (N := some 11) #[true, true, true, true, true, true, true, true, true, false, false] rfl rfl (one_of HT_.out (by kernel_rfl)) (by decide) (fun K hK => ?_)
            refine goes_ Try.func35 (by kernel_rfl) rfl #[.int .u64 (IntKind.u64.wrap (Int.tdiv a0 10))] (by rfl) rfl rfl (by (try simp only [List.map_toArray, List.map_cons, List.map_nil]); first | done | rfl | (simp only [List.length_drop, List.length_take]; rfl)) ?_
            with_reducible refine (ih k (by omega) (IntKind.u64.wrap (Int.tdiv a0 10)) t199 _ A6.out).mono ?_
            rintro e w13 ⟨rfl, hb⟩
            refine ⟨_, rfl, ?_⟩
            have n0_ := Aside0.mk (below_step (by repeat (first | (with_reducible first | exact HB.out | apply below_alloc | apply pw_below_drewN | apply below_drew1) | exact HB.out)) hb)
            clear HB
            have HB := n0_
            clear n0_
            (try clear hb)
            (try clear hb2)
            (try clear hk)
            (try clear hi)
            refine hK.out _ _ trivial (fun hHeld => ?_)
            clear hK K
            refine norm_ (a' := ?_) ?_ ?_
            rotate_left
            · show Act.put _ (some 11) _ = _
              simp only [Act.put, List.setIfInBounds_toArray, List.set_cons_zero, List.set_cons_succ, i64_w, i32_w]
              rfl
            refine pure_ (i := 9) (N := some 18) (v := ?_) (a' := ?_) #[true, true, true, true, true, true, true, true, true, true, false] rfl rfl (any_of HT_.out (by kernel_rfl)) (fun _ _ _ h => h) (Or.inl ⟨by rfl, ?_⟩) ?_ ?_
            rotate_left
            · intro w'
              go_simp
              with_reducible rfl
            rotate_left
            · simp only [Act.put, List.setIfInBounds_toArray, List.set_cons_zero, List.set_cons_succ, i64_w, i32_w]
              rfl
            refine pure_ (i := 10) (N := some 2) (v := ?_) (a' := ?_) #[true, true, true, true, true, true, true, true, true, true, true] rfl rfl (any_of HT_.out (by kernel_rfl)) (fun _ _ _ h => h) (Or.inl ⟨by rfl, ?_⟩) ?_ ?_
            rotate_left
            · intro w'
              go_simp
              with_reducible rfl
            rotate_left
            · simp only [Act.put, List.setIfInBounds_toArray, List.set_cons_zero, List.set_cons_succ, i64_w, i32_w]
              rfl
            refine done_ (done_of HT_.out (by kernel_rfl)) ?_
            try go_wp2
            go_ret
            exact ⟨by first | rfl | (simp [errW_none, errW_some] <;> rfl) | (simp only [← hji7]; first | rfl | (simp [errW_none, errW_some] <;> rfl)) | (simp [*, errW_none, errW_some] <;> rfl), by repeat (first | (with_reducible first | exact HB.out | apply below_alloc | apply pw_below_drewN | apply below_drew1) | exact HB.out)⟩
          · rw [if_neg c11] at H
            exact absurd H (by simp)
        · rw [if_neg c10] at H
          exact absurd H (by simp)
      · rw [if_neg c9] at H
        exact absurd H (by simp)
    · rw [if_neg c8] at H
      exact absurd H (by simp)

end Go.Proofs.Ytmdhggiffdkmfaa.P
