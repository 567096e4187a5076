/- Plain lemmas on bytes, strings and numbers for this claim. No Go and no program in sight. -/
import Derived.Test.YtmbiggcapakjjaaDoorWMore
import Derived.Lib.SlBytesConst
import Derived.Laws.BitsAllLaws
import Derived.Laws.BitsLemmas
set_option linter.unusedVariables false
set_option linter.unusedSimpArgs false
namespace Go.Proofs.YtmbiggcapakjjaaDoor.Aids
open Go.RowKit Go.Proofs.YtmbiggcapakjjaaDoorW.PrintWords Go.Proofs.YtmbiggcapakjjaaDoorW.PrintLast

theorem w64 {x : Int} (h0 : -9223372036854775808 ≤ x) (h1 : x ≤ 9223372036854775807) : wrap64 x = x := by
  unfold wrap64; omega
theorem tmod_nat (a n : Nat) : Int.tmod (a : Int) (n : Int) = ((a % n : Nat) : Int) := rfl
theorem tdiv_nat (a n : Nat) : Int.tdiv (a : Int) (n : Int) = ((a / n : Nat) : Int) := rfl
theorem tmod_pos {a n : Int} (h : 0 ≤ a) : Int.tmod a n = a % n := Int.tmod_eq_emod_of_nonneg h
theorem tdiv_pos {a n : Int} (h : 0 ≤ a) : Int.tdiv a n = a / n := Int.tdiv_eq_ediv_of_nonneg h
theorem size_bytes (s : ByteArray) : (bytesOf s).length = s.size := by
  unfold bytesOf; rw [List.length_map, Array.length_toList]; rfl
theorem bt_bytes (s : ByteArray) (i : Int) : bt s i = rd (bytesOf s) i := by
  unfold bt rd
  by_cases h : i.toNat < s.size
  · rw [dif_pos h, List.getD_eq_getElem?_getD]
    have h2 : i.toNat < s.data.size := h
    unfold bytesOf
    rw [List.getElem?_map, Array.getElem?_toList, Array.getElem?_eq_getElem h2]
    rfl
  · rw [dif_neg h, List.getD_eq_getElem?_getD, List.getElem?_eq_none (by rw [size_bytes]; omega)]
    rfl
def isByte (x : Int) : Prop := 0 ≤ x ∧ x ≤ 255
theorem byte_of {s : ByteArray} : ∀ x ∈ bytesOf s, 0 ≤ x ∧ x ≤ 255 := by
  intro x hx
  simp only [bytesOf, List.mem_map] at hx
  obtain ⟨b, _, rfl⟩ := hx
  have := b.toNat_lt
  omega
theorem bytes_str (xs : List Int) (h : ∀ x ∈ xs, 0 ≤ x ∧ x ≤ 255) : bytesOf (strOfNums xs) = xs := by
  simp only [bytesOf, strOfNums_data, List.map_map]
  conv => rhs; rw [← List.map_id xs]
  apply List.map_congr_left
  intro x hx
  have := h x hx
  simp only [Function.comp, UInt8.toNat_ofNat', id]
  omega
theorem str_bytes (s : ByteArray) : strOfNums (bytesOf s) = s := by
  apply ByteArray.ext
  apply Array.ext'
  rw [strOfNums_data]
  simp only [bytesOf, List.map_map]
  conv => rhs; rw [← List.map_id s.data.toList]
  apply List.map_congr_left
  intro x _
  simp [Function.comp]
theorem bytes_inj {s t : ByteArray} (h : bytesOf s = bytesOf t) : s = t := by rw [← str_bytes s, ← str_bytes t, h]
theorem bytes_append (s t : ByteArray) : bytesOf (s ++ t) = bytesOf s ++ bytesOf t := by
  simp [bytesOf]
theorem bytes_extract (s : ByteArray) (a b : Nat) : bytesOf (s.extract a b) = ((bytesOf s).take b).drop a := by
  unfold bytesOf
  rw [ByteArray.data_extract, Array.toList_extract, List.extract_eq_drop_take', List.map_drop, List.map_take]
theorem wf_u8 {x : Int} (h : (Lit.int .u8 x).wf = true) : 0 ≤ x ∧ x ≤ 255 := by
  simp [Lit.wf, IntKind.min, IntKind.max, IntKind.signed, IntKind.bits] at h
  omega
theorem wf_u16 {x : Int} (h : (Lit.int .u16 x).wf = true) : 0 ≤ x ∧ x ≤ 65535 := by
  simp [Lit.wf, IntKind.min, IntKind.max, IntKind.signed, IntKind.bits] at h
  omega
theorem wf_u32 {x : Int} (h : (Lit.int .u32 x).wf = true) : 0 ≤ x ∧ x ≤ 4294967295 := by
  simp [Lit.wf, IntKind.min, IntKind.max, IntKind.signed, IntKind.bits] at h
  omega
theorem wf_i64 {x : Int} (h : (Lit.int .i64 x).wf = true) : -9223372036854775808 ≤ x ∧ x ≤ 9223372036854775807 := by
  simp [Lit.wf, IntKind.min, IntKind.max, IntKind.signed, IntKind.bits] at h
  omega
theorem wf_i32 {x : Int} (h : (Lit.int .i32 x).wf = true) : -2147483648 ≤ x ∧ x ≤ 2147483647 := by
  simp [Lit.wf, IntKind.min, IntKind.max, IntKind.signed, IntKind.bits] at h
  omega
theorem const_C {W : World} {g : Nat} {t : TypeId} {fr : Nat × Nat} (l : List Int) (hm : l.length ≤ 9223372036854775807) (hg : W.heap[g]? = some (.cells (l.map (Value.int .u8)).toArray t fr)) :
    Kd.C (Kd.int .u8) W (some ⟨g, 0, none⟩) l.length l := by
  refine Kd.C_of_reads (d := (0 : Int)) (h1 := fun _ => rfl) ?_
  refine ⟨rfl, hm, fun _ => ⟨_, rfl, fun j hj => ?_⟩⟩
  rw [add_plain, cell_of_row _ _ _ _ _ _ hg]
  simp [List.getD, hj]
theorem const_V {W : World} {g : Nat} {t : TypeId} {fr : Nat × Nat} {e base c : Nat} (l : List Int) (hm : l.length ≤ 9223372036854775807) (hc : l.length ≤ c) (hg : W.heap[g]? = some (.cells (l.map (Value.int .u8)).toArray t fr)) :
    Kd.V (Kd.int .u8) e W base (fun k_ => k_ = g) (.slice (some ⟨g, 0, none⟩) l.length c) l :=
  ⟨_, _, rfl, hc, fun W' hW' => const_C l hm ((hW' g rfl (Array.getElem?_eq_some_iff.1 hg).1).trans hg)⟩
end Go.Proofs.YtmbiggcapakjjaaDoor.Aids
