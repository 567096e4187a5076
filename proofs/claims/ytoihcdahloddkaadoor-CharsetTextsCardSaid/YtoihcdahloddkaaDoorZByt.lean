import Derived.Test.YtoihcdahloddkaaDoorZSet
namespace Go.Proofs.YtoihcdahloddkaaDoor.P
open Go.RowKit Go.Proofs.YtoihcdahloddkaaDoorW.PrintWords Go.Proofs.YtoihcdahloddkaaDoorW.PrintLast Go.Proofs.YtoihcdahloddkaaDoorW.PrintMore Go.Proofs.YtoihcdahloddkaaDoor.Aids
attribute [-simp] Int.tmod_tmod_of_dvd
set_option linter.unusedVariables false
set_option linter.unusedSimpArgs false
def itSet (W : World) (g : Nat) (s : ByteArray) (p : Nat) : World := { W with heap := W.heap.setIfInBounds g (.stringIter s p) }
section
variable {P : Program} {W : World} {g p : Nat} {s : ByteArray}
theorem it_lt (h : W.heap[g]? = some (.stringIter s p)) : g < W.heap.size := (Array.getElem?_eq_some_iff.1 h).1
theorem it_at (h : W.heap[g]? = some (.stringIter s p)) (p' : Nat) : (itSet W g s p').heap[g]? = some (.stringIter s p') := by
  have := it_lt h
  simp [itSet, this]
theorem it_far {k : Nat} (hk : k ≠ g) (p' : Nat) : (itSet W g s p').heap[k]? = W.heap[k]? := by simp [itSet, Ne.symm hk]
theorem it_grown (p' : Nat) : W.grownBy (itSet W g s p') (some g) := ⟨rfl, rfl, rfl, by simp [itSet], fun k _ hk => it_far (fun e => hk (by rw [e])) p'⟩
theorem run_next_some (h : W.heap[g]? = some (.stringIter s p)) (ty : TypeId) (hp : p < s.size) :
    (Instr.next (.pointer (some ⟨g, 0, none⟩)) true ty).run P W = .ok (.tuple #[.bool true, .int .i64 p, .int .i32 (Utf8.decode s p).1]) (itSet W g s (p + (Utf8.decode s p).2)) := by
  simp only [Instr.next, getObj, setObj, Sem.run_bind, Sem.run, h, Result.andThen, hp, if_true]
  simp [goInt, itSet]
theorem run_next_none (h : W.heap[g]? = some (.stringIter s p)) (ty : TypeId) (hp : ¬ p < s.size) :
    (Instr.next (.pointer (some ⟨g, 0, none⟩)) true ty).run P W = .ok (.tuple #[.bool false]) W := by
  simp [Instr.next, getObj, Sem.run, h, hp]
end
theorem dec_width (s : ByteArray) (p : Nat) (h : p < s.size) : 1 ≤ (Utf8.decode s p).2 ∧ (Utf8.decode s p).1 ≤ 2147483647 := by
  refine ⟨?_, decode_le s p⟩
  by_cases ha : (s[p]'h).toNat < 128
  · rw [decode_ascii s p h ha]; exact Nat.le_refl _
  · exact (decode_high s p h (by omega)).2
theorem dec_le4 (s : ByteArray) (p : Nat) : (Utf8.decode s p).2 ≤ 4 := by
  unfold Utf8.decode
  simp only
  repeat' split
  all_goals simp
/-- a text's bytes in a narrow charset, from a place on -/
def bytL (sz : Int) (s : ByteArray) : Nat → Nat → List Int → List Int × Bool
  | 0, _, _ => ([], false)
  | d + 1, p, acc => if p < s.size then (if sz ≤ ((Utf8.decode s p).1 : Int) then ([], false) else bytL sz s d (p + (Utf8.decode s p).2) (acc ++ [((Utf8.decode s p).1 : Int) % 256])) else (acc, true)
theorem bytL_fuel (sz : Int) (s : ByteArray) : ∀ (d e p : Nat) (acc : List Int), s.size - p < d → s.size - p < e → bytL sz s d p acc = bytL sz s e p acc
  | 0, _, _, _, h, _ => by omega
  | _ + 1, 0, _, _, _, h => by omega
  | d + 1, e + 1, p, acc, h1, h2 => by
    unfold bytL
    by_cases hp : p < s.size
    · rw [if_pos hp, if_pos hp]
      have := (dec_width s p hp).1
      rw [bytL_fuel sz s d e _ _ (by omega) (by omega)]
    · rw [if_neg hp, if_neg hp]
set_option maxHeartbeats 4000000 in
theorem cs_bytes (s : ByteArray) (sz : Int) (w : World) (hs : s.size < 1000000) (L : List Int) (b : Bool) (hf : bytL sz s (s.size + 1) 0 [] = (L, b)) :
    Calls Tryd.prog 21 #[.agg #[.int .i32 sz], .string s] w fun e w' => ∃ v, e = .returned (.tuple #[v, .bool b]) ∧ Kd.R (Kd.int .u8) 5 w' w.heap.size (fun _ => True) v L ∧ Below w.heap.size w w' := by
  have HF := Aside0.mk hf
  clear hf
  go_enter Tryd.func21, Tryd.ntmps21
  go_wp2
  go_loopg [6] (s.size + 1) (fun gk v6 wr => ∃ (p : Nat) (acc : List Int), Aside0 (bytL sz s gk p acc = (L, b)) ∧ s.size - p < gk ∧ acc.length ≤ p ∧ p ≤ s.size + 4 ∧ Aside0 (Kd.R (Kd.int .u8) 5 wr w.heap.size (fun k => k ≠ w.heap.size ∧ k ≠ w.heap.size + 1) v6 acc) ∧ Aside0 (Below w.heap.size w wr) ∧ Aside0 (wr.heap[w.heap.size]? = some (.cells #[.int .i32 sz] 36 (0, 0))) ∧ Aside0 (wr.heap[w.heap.size + 1]? = some (.stringIter s p)))
  case atStart =>
    have e1 : (w.alloc (.cells #[.int .i32 sz] 36)).heap.size = w.heap.size + 1 := by simp
    have b1 := below_alloc (Below.refl w.heap.size w) (.cells #[.int .i32 sz] 36)
    refine ⟨0, [], HF, by omega, Nat.zero_le _, by omega, ⟨Kd.R_nil _ _ _ _ _⟩, ⟨below_alloc b1 _⟩, ⟨?_⟩, ⟨?_⟩⟩
    · exact blk_alloc (heap_alloc_new w _) _
    · have := World.iter_heap (w.alloc (.cells #[.int .i32 sz] 36)) s 0
      rw [e1] at this
      exact this
  case round =>
    obtain ⟨p, acc, HA, hg, hacc, hp4, HR, HBl, HBx, HIt⟩ := hrel
    have hbx := cell_of_row wr w.heap.size 0 _ _ _ HBx.out
    simp only [List.getElem?_toArray, List.getElem?_cons_zero] at hbx
    obtain ⟨d, rfl⟩ : ∃ d, gk = d + 1 := ⟨gk - 1, by omega⟩
    have hA := HA.out
    clear HA HF
    unfold bytL at hA
    by_cases hlt : p < s.size
    · rw [if_pos hlt] at hA
      have hnx := run_next_some (P := Tryd.prog) HIt.out 0 hlt
      have hwd := dec_width s p hlt
      obtain ⟨r, hr⟩ : ∃ r, (Utf8.decode s p).1 = r := ⟨_, rfl⟩
      obtain ⟨n, hn⟩ : ∃ n, (Utf8.decode s p).2 = n := ⟨_, rfl⟩
      have hn4 : n ≤ 4 := by rw [← hn]; exact dec_le4 s p
      rw [hr, hn] at hA hnx hwd
      have g1 := it_grown (W := wr) (g := w.heap.size + 1) (s := s) (p + n)
      have hne : some (w.heap.size + 1) ≠ u6.ownBlock := fun e => (HR.out.1 _ e.symm).2 rfl
      have HR1 := Aside0.mk (Kd.R_grown1 HR.out rfl g1 hne)
      have HB1 : Aside0 (Below w.heap.size w (itSet wr (w.heap.size + 1) s (p + n))) := ⟨HBl.out.trans ⟨rfl, rfl, rfl, by simp [itSet], fun k hk => it_far (by omega) _⟩⟩
      have HX1 : Aside0 ((itSet wr (w.heap.size + 1) s (p + n)).heap[w.heap.size]? = some (.cells #[.int .i32 sz] 36 (0, 0))) := ⟨(it_far (by omega) _).trans HBx.out⟩
      have HI1 := Aside0.mk (it_at HIt.out (p + n))
      have hbx1 := cell_of_row _ w.heap.size 0 _ _ _ HX1.out
      simp only [List.getElem?_toArray, List.getElem?_cons_zero] at hbx1
      clear hr hn g1 hne HR HBl HBx HIt hbx
      generalize itSet wr (w.heap.size + 1) s (p + n) = W1 at *
      by_cases hge : sz ≤ (r : Int)
      · rw [if_pos hge] at hA
        have q1 : decide (sz ≤ (r : Int)) = true := decide_eq_true hge
        simp only [Prod.mk.injEq] at hA
        obtain ⟨hA1, hA2⟩ := hA
        subst hA1
        subst hA2
        clear hge
        go_wp2
        go_ret2
        exact ⟨_, rfl, Kd.R_nil _ _ _ _ _, HB1.out⟩
      · rw [if_neg hge] at hA
        have HA := Aside0.mk hA
        have q1 : decide (sz ≤ (r : Int)) = false := decide_eq_false hge
        have hw8 : IntKind.u8.wrap (r : Int) = (r : Int) % 256 := IntKind.wrap_u8 _
        have HL := Aside0.mk (it_lt HI1.out)
        clear hge hA
        go_wp2_with ((with_reducible refine gate_builtin (b := .append) (xs := #[.tmp 18, .tmp 21]) rfl ?_); at_builtin; refine Kd.R_append (Kd.int .u8) (w0 := w) w.heap.size rfl (.tmp 18) (.tmp 21) 22 5 (.int .u8 0) 1 rfl Tryd.underlying22 info5 rfl (by decide) (by omega) u6 acc ((r : Int) % 256) [.int .u8 ((r : Int) % 256)] (fun k => k ≠ w.heap.size ∧ k ≠ w.heap.size + 1) (fun _ => False) rfl rfl ?aP (fun _ hk => hk.elim) ?aF HR1.out HB1.out ?aS ?aL ?_; (case aP => exact rfl); (case aF => exact fun j hj => by have := HL.out; exact ⟨by omega, by omega⟩); (case aS => exact HB1.out.size); (case aL => omega); intro v1 w1 ho hb hg2 hat; have HO := Aside0.mk ho; have HB2 := Aside0.mk hb; have HG := Aside0.mk (blk_grown HX1.out hg2 (Kd.R_away HR1.out (fun _ hk => hk.1))); have HI2 := Aside0.mk ((hg2.block _ HL.out (Kd.R_away HR1.out (fun _ hk => hk.2))).trans HI1.out); clear ho hb hg2 hat)
        go_roundg d
        case measure => omega
        case rel => exact ⟨p + n, _, HA, by omega, by rw [List.length_append]; simp only [List.length_singleton]; omega, by omega, HO, HB2, HG, HI2⟩
    · rw [if_neg hlt] at hA
      have hnx := run_next_none (P := Tryd.prog) HIt.out 0 hlt
      simp only [Prod.mk.injEq] at hA
      obtain ⟨hA1, hA2⟩ := hA
      subst hA1
      subst hA2
      go_wp2
      go_ret2
      exact ⟨_, rfl, Kd.R_mono HR.out (fun _ _ => trivial), HBl.out⟩
end Go.Proofs.YtoihcdahloddkaaDoor.P
