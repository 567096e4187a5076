-- Cut by a program of this session (wip/tools/prunew.py): what this claim does not need is left out.
import Derived.Test.YtmbiggcapakjjaaDoorAids
set_option linter.unusedVariables false
set_option linter.unusedSimpArgs false
namespace Go.Proofs.YtmbiggcapakjjaaDoor.Aids
open Go.RowKit Go.Proofs.YtmbiggcapakjjaaDoorW.PrintWords Go.Proofs.YtmbiggcapakjjaaDoorW.PrintLast
section
variable {α β : Type} {r : α}
theorem st {g f : Nat → Option α} (h : ∀ k, g (k + 1) = f k) (hf : Ev f r) : Ev g r := Ev.step h hf
theorem yes {c : Prop} [Decidable c] {A B : Nat → Option α} (h : c) (hA : Ev A r) : Ev (fun k => if c then A k else B k) r := by
  simp only [if_pos h]; exact hA
theorem no {c : Prop} [Decidable c] {A B : Nat → Option α} (h : ¬ c) (hB : Ev B r) : Ev (fun k => if c then A k else B k) r := by
  simp only [if_neg h]; exact hB
theorem bnd {g : Nat → Option β} {f : Nat → β → Option α} {a : β} (h : Ev g a) (k : Ev (fun n => f n a) r) : Ev (fun n => (g n).bind (f n)) r := Ev.bind h k
theorem bs {x : β} {f : Nat → β → Option α} (k : Ev (fun n => f n x) r) : Ev (fun n => (some x).bind (f n)) r := k
theorem fin {x : α} (h : x = r) : Ev (fun _ => some x) r := by rw [h]; exact Ev.now r
theorem evk {g : Nat → Option α} (hg : ∀ k, LeO (g k) (g (k + 1))) (k : Nat) (h : g k = some r) : Ev g r := Ev.of hg h
theorem toE {g : Nat → Option α} {r' : α} (h : Ev g r) (e : r = r') : Ev g r' := e ▸ h
end
def byte (l : List Int) : Prop := ∀ c ∈ l, 0 ≤ c ∧ c ≤ 255
theorem byte_take {l : List Int} (h : byte l) (n : Nat) : byte (l.take n) := fun c hc => h c (List.mem_of_mem_take hc)
theorem byte_drop {l : List Int} (h : byte l) (n : Nat) : byte (l.drop n) := fun c hc => h c (List.mem_of_mem_drop hc)
theorem byte_left {l m : List Int} (h : byte (l ++ m)) : byte l := fun c hc => h c (List.mem_append_left _ hc)
theorem byte_nil : byte [] := fun c hc => by cases hc
theorem byte_append {l m : List Int} (h : byte l) (k : byte m) : byte (l ++ m) := fun c hc => (List.mem_append.1 hc).elim (h c) (k c)
theorem byte_one {x : Int} (h0 : 0 ≤ x) (h1 : x ≤ 255) : byte [x] := fun c hc => by rw [List.mem_singleton.1 hc]; exact ⟨h0, h1⟩
theorem byte_cons {x : Int} {l : List Int} (h0 : 0 ≤ x ∧ x ≤ 255) (h : byte l) : byte (x :: l) := fun c hc => (List.mem_cons.1 hc).elim (fun e => by rw [e]; exact h0) (h c)
theorem byte_bytes (s : ByteArray) : byte (bytesOf s) := byte_of
theorem rd_at (l : List Int) (i : Nat) (h : i < l.length) : rd l (i : Int) = l[i] := by
  unfold rd
  rw [Int.toNat_natCast, List.getD_eq_getElem?_getD, List.getElem?_eq_getElem h]; rfl
theorem rd_mem (l : List Int) (i : Nat) (h : i < l.length) : rd l (i : Int) ∈ l := by rw [rd_at l i h]; exact List.getElem_mem h
theorem drop_rd (l : List Int) (i : Nat) (h : i < l.length) : l.drop i = rd l (i : Int) :: l.drop (i + 1) := by
  rw [rd_at l i h]; exact List.drop_eq_getElem_cons h
theorem toList_eq {s t : ByteArray} (h : bytesOf s = bytesOf t) : s.toList = t.toList := by rw [bytes_inj h]
theorem bytes_of_toList {s t : ByteArray} (h : s.toList = t.toList) : s = t := by
  apply ByteArray.ext
  apply Array.ext'
  simp only [ByteArray.toList_eq] at h
  exact h
theorem toList_iff {s t : ByteArray} : s.toList = t.toList ↔ bytesOf s = bytesOf t := ⟨fun h => by rw [bytes_of_toList h], toList_eq⟩
theorem toList_beq {s t : ByteArray} : (s.toList == t.toList) = (bytesOf s == bytesOf t) := by
  rw [Bool.eq_iff_iff, beq_iff_eq, beq_iff_eq]; exact toList_iff
theorem str_append (l m : List Int) : strOfNums l ++ strOfNums m = strOfNums (l ++ m) := by
  apply ByteArray.ext
  apply Array.ext'
  rw [ByteArray.data_append, Array.toList_append, strOfNums_data, strOfNums_data, strOfNums_data, List.map_append]
theorem str_extract (l : List Int) (a b : Nat) : (strOfNums l).extract a b = strOfNums ((l.take b).drop a) := by
  apply ByteArray.ext
  apply Array.ext'
  rw [ByteArray.data_extract, Array.toList_extract, List.extract_eq_drop_take', strOfNums_data, strOfNums_data, List.map_drop, List.map_take]
theorem str_bt (l : List Int) (h : ∀ x ∈ l, 0 ≤ x ∧ x ≤ 255) (i : Int) : bt (strOfNums l) i = rd l i := by rw [bt_bytes, bytes_str l h]
theorem str_nil : strOfNums [] = (⟨#[]⟩ : ByteArray) := rfl
theorem str_toList_nil (l : List Int) : (strOfNums l).toList = [] ↔ l = [] := by
  rw [ByteArray.toList_eq, strOfNums_data]; exact List.map_eq_nil_iff
end Go.Proofs.YtmbiggcapakjjaaDoor.Aids
