import Derived.Test.YtoihcdahloddkaaDoorZFind5
namespace Go.Proofs.YtoihcdahloddkaaDoor.P
open Go.RowKit Go.Proofs.YtoihcdahloddkaaDoorW.PrintWords Go.Proofs.YtoihcdahloddkaaDoorW.PrintLast Go.Proofs.YtoihcdahloddkaaDoorW.PrintMore
attribute [-simp] Int.tmod_tmod_of_dvd
set_option linter.unusedVariables false
set_option linter.unusedSimpArgs false
theorem arr30 : ∀ (l : List Value), l.length = 30 → ∃ x0 x1 x2 x3 x4 x5 x6 x7 x8 x9 x10 x11 x12 x13 x14 x15 x16 x17 x18 x19 x20 x21 x22 x23 x24 x25 x26 x27 x28 x29, l = [x0, x1, x2, x3, x4, x5, x6, x7, x8, x9, x10, x11, x12, x13, x14, x15, x16, x17, x18, x19, x20, x21, x22, x23, x24, x25, x26, x27, x28, x29]
  | [x0, x1, x2, x3, x4, x5, x6, x7, x8, x9, x10, x11, x12, x13, x14, x15, x16, x17, x18, x19, x20, x21, x22, x23, x24, x25, x26, x27, x28, x29], _ => ⟨x0, x1, x2, x3, x4, x5, x6, x7, x8, x9, x10, x11, x12, x13, x14, x15, x16, x17, x18, x19, x20, x21, x22, x23, x24, x25, x26, x27, x28, x29, rfl⟩
theorem cs_kind4 (s : ByteArray) : cs_kind s = 0 ∨ cs_kind s = 1 ∨ cs_kind s = 2 ∨ cs_kind s = 3 := by
  unfold cs_kind
  repeat' split
  all_goals simp
set_option maxHeartbeats 4000000 in
set_option maxRecDepth 100000 in
theorem cs_find (s : ByteArray) (w : World) (hs : s.size ≤ 9223372036854775807) : Calls Tryd.prog 14 #[.string s] w fun e w' => e = .returned (.tuple #[cs_way (cs_kind (cs_fold s)), .bool (cs_kind (cs_fold s) != 0)]) ∧ Below w.heap.size w w' := by
  go_enter Tryd.func14, Tryd.ntmps14
  go_wp2_with fail
  rename_i Q' K hK
  refine wp_region_any (by kernel_rfl) ?_
  refine find_region (w0 := w) (s := s) (p2 := w.heap.size) (p5 := w.heap.size + 1) hs ?init ?cont
  case init =>
    have rp : ∀ j, (Array.replicate 27 false).getD j false = true → False := fun j h => by
      rw [Array.getD_eq_getD_getElem?, Array.getElem?_replicate] at h
      split at h <;> cases h
    have hb := below_drew1 (below_alloc (below_alloc (Below.refl w.heap.size w) (.cells (cs_cells 0) 40)) (.cells (cs_cells 3) 40))
    have h5 := heap_alloc_new (w.alloc (.cells (cs_cells 0) 40)) (.cells (cs_cells 3) 40)
    rw [show (w.alloc (.cells (cs_cells 0) 40)).heap.size = w.heap.size + 1 from by simp] at h5
    exact ⟨by simp, by simp, rfl, rfl, rfl, rfl, rfl, rfl, fun i d _ h => (rp i h).elim, fun j _ h => (rp j h).elim, fun h => (rp _ h).elim, fun h => (rp _ h).elim, fun h => (rp _ h).elim, fun h => (rp _ h).elim,
      blk_alloc (heap_alloc_new w _) _, h5, hb⟩
  case cont =>
    intro a' w' p6 hsz hdf ht2 ht6 hne ht7 h6 h2 hbel
    obtain ⟨⟨l⟩, df⟩ := a'
    simp only at hdf
    subst hdf
    obtain ⟨x0, x1, x2, x3, x4, x5, x6, x7, x8, x9, x10, x11, x12, x13, x14, x15, x16, x17, x18, x19, x20, x21, x22, x23, x24, x25, x26, x27, x28, x29, rfl⟩ := arr30 l (by simpa using hsz)
    simp at ht2 ht6 ht7
    subst ht2 ht6 ht7
    clear hsz
    refine hK _ _ ?_
    clear hK
    have a0 := cell_of_row w' p6 0 _ _ _ h6
    have a1 := cell_of_row w' p6 1 _ _ _ h6
    have a2 := cell_of_row w' p6 2 _ _ _ h6
    have b0 := cell_of_row w' _ 0 _ _ _ h2
    have b1 := cell_of_row w' _ 1 _ _ _ h2
    have b2 := cell_of_row w' _ 2 _ _ _ h2
    have f0 := frozen_of_row w' _ 0 _ _ h2
    have f1 := frozen_of_row w' _ 1 _ _ h2
    have f2 := frozen_of_row w' _ 2 _ _ h2
    have HB := Aside0.mk hbel
    clear hbel h6 h2
    have hn : (w.heap.size = p6) = False := by simp; exact Ne.symm hne
    have k4 := cs_kind4 (cs_fold s)
    obtain ⟨k, hk⟩ : ∃ k, cs_kind (cs_fold s) = k := ⟨_, rfl⟩
    rw [hk] at a0 a1 a2 k4 ⊢
    have HK := Aside0.mk hk
    clear hk
    rcases k4 with rfl | rfl | rfl | rfl
    all_goals
      simp [cs_cells] at a0 a1 a2 b0 b1 b2
      go_wp2
    · refine bodyPost_ret (v := .tuple #[cs_way 0, .bool false]) (by simp [results, Tryd.results14, go_sem, b0, b1, b2, f0, f1, f2]; rfl) rfl ⟨by rw [HK.out]; rfl, ?_⟩
      exact ((HB.out.setCell (p := ⟨w.heap.size, 0, none⟩) (Nat.le_refl _) _).setCell (p := ⟨w.heap.size, 1, none⟩) (Nat.le_refl _) _).setCell (p := ⟨w.heap.size, 2, none⟩) (Nat.le_refl _) _
    · refine bodyPost_ret (v := .tuple #[cs_way 1, .bool true]) (by simp [results, Tryd.results14, go_sem, b0, b1, b2, f0, f1, f2]; rfl) rfl ⟨by rw [HK.out]; rfl, ?_⟩
      exact ((HB.out.setCell (p := ⟨w.heap.size, 0, none⟩) (Nat.le_refl _) _).setCell (p := ⟨w.heap.size, 1, none⟩) (Nat.le_refl _) _).setCell (p := ⟨w.heap.size, 2, none⟩) (Nat.le_refl _) _
    · refine bodyPost_ret (v := .tuple #[cs_way 2, .bool true]) (by simp [results, Tryd.results14, go_sem, b0, b1, b2, f0, f1, f2]; rfl) rfl ⟨by rw [HK.out]; rfl, ?_⟩
      exact ((HB.out.setCell (p := ⟨w.heap.size, 0, none⟩) (Nat.le_refl _) _).setCell (p := ⟨w.heap.size, 1, none⟩) (Nat.le_refl _) _).setCell (p := ⟨w.heap.size, 2, none⟩) (Nat.le_refl _) _
    · refine bodyPost_ret (v := .tuple #[cs_way 3, .bool true]) (by simp [results, Tryd.results14, go_sem, b0, b1, b2, f0, f1, f2]; rfl) rfl ⟨by rw [HK.out]; rfl, ?_⟩
      exact ((HB.out.setCell (p := ⟨w.heap.size, 0, none⟩) (Nat.le_refl _) _).setCell (p := ⟨w.heap.size, 1, none⟩) (Nat.le_refl _) _).setCell (p := ⟨w.heap.size, 2, none⟩) (Nat.le_refl _) _
end Go.Proofs.YtoihcdahloddkaaDoor.P
