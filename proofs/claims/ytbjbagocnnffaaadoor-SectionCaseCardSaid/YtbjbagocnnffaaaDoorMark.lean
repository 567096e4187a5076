/- A row of bytes that bears a mark ([]byte(s)): what it holds behind stores; read whole, from a place on, and as a string. -/
import Derived.Test.YtbjbagocnnffaaaDoorPx0
import Derived.Test.YtbjbagocnnffaaaDoorConv
set_option linter.unusedVariables false
set_option linter.unusedSimpArgs false
namespace Go.Proofs.YtbjbagocnnffaaaDoor.Mk
open Go.RowKit Go.Proofs.YtbjbagocnnffaaaDoorW.PrintWords Go.Proofs.YtbjbagocnnffaaaDoorW.PrintLast Go.Proofs.YtbjbagocnnffaaaDoorW.PrintMore
/-- block g: bytes (type number e), the list l first, with its mark -/
def row (e g : Nat) (wr : World) (l : List Int) : Prop :=
  ∃ (C : Array Value) (m : Nat), wr.heap[g]? = some (.cells C e (m, m + 1)) ∧ C.size = m ∧ l.length ≤ m ∧ ∀ j, j < l.length → C[j]? = some (.int .u8 (l.getD j 0))
theorem start (e : Nat) (w : World) (s : ByteArray) (hs : s.size ≤ 9223372036854775807) : row e w.heap.size (Lib.bytesWorld w e s) (bytesOf s) := by
  refine ⟨_, _, Lib.bytesWorld_at_new w e s, rfl, by simp [Lib.bytesCells, bytesOf_length], fun j hj => ?_⟩
  rw [bytesOf_length] at hj
  have h1 := Lib.bytesWorld_cell w e s j hj
  rw [cell_of_row _ _ _ _ _ _ (Lib.bytesWorld_at_new w e s)] at h1
  have h' : j < s.data.toList.length := by rw [data_length]; exact hj
  rw [h1]
  simp [bytesOf, List.getD_eq_getElem?_getD, List.getElem?_eq_getElem h']
theorem set {e g : Nat} {wr : World} {l : List Int} (h : row e g wr l) (i : Nat) (x : Int) (hi : i < l.length) : row e g (wr.setCell ⟨g, i, none⟩ (.int .u8 x)) (l.set i x) := by
  obtain ⟨C, m, hg, hm, hsm, hc⟩ := h
  refine ⟨C.setIfInBounds i (.int .u8 x), m, ?_, by simpa using hm, by simpa using hsm, fun j hj => ?_⟩
  · rw [setCell_eq_setRow wr _ i C _ _ _ hg]; exact setRow_heap wr _ C _ _ _ hg
  · rw [List.length_set] at hj
    rw [Array.getElem?_setIfInBounds, List.getD_eq_getElem?_getD, List.getElem?_set]
    by_cases e : i = j
    · subst e; simp [show i < C.size by omega, hj]
    · simp only [e, if_false]; rw [← List.getD_eq_getElem?_getD]; exact hc j hj
theorem cell {e g : Nat} {wr : World} {l : List Int} (h : row e g wr l) (j : Nat) (hj : j < l.length) : wr.cell? ⟨g, j, none⟩ = some (.int .u8 (rd l (j : Int))) ∧ wr.frozen? ⟨g, j, none⟩ = false := by
  obtain ⟨C, m, hg, hm, hsm, hc⟩ := h
  refine ⟨by rw [cell_of_row _ _ _ _ _ _ hg]; exact hc j hj, ?_⟩
  simp [World.frozen?, hg]; omega
theorem reads {e g : Nat} {wr : World} {l : List Int} (h : row e g wr l) (hs : l.length ≤ 9223372036854775807) (a : Nat) (ha : a ≤ l.length) : Kd.C (Kd.int .u8) wr (some ⟨g, a, none⟩) (l.length - a) (l.drop a) := by
  refine Kd.C_of_reads (d := (0 : Int)) (h1 := fun _ => rfl) ⟨by rw [List.length_drop], by omega, fun _ => ⟨_, rfl, fun j hj => ?_⟩⟩
  obtain ⟨C, m, hg, hm, hsm, hc⟩ := h
  have h2 := hc (a + j) (by omega)
  have h3 : (⟨g, a, none⟩ : Addr).add j = ⟨g, a + j, none⟩ := by simp [Addr.add]
  rw [h3, cell_of_row _ _ _ _ _ _ hg, h2]
  simp [List.getD_eq_getElem?_getD, List.getElem?_drop]
theorem carry {e g : Nat} {w wr : World} {l : List Int} {B : Nat} (h : row e g w l) (hb : Below B w wr) (hB : g < B) : row e g wr l := by
  obtain ⟨C, m, hg, h2⟩ := h
  exact ⟨C, m, (hb.block g hB).trans hg, h2⟩
theorem lt {e g : Nat} {wr : World} {l : List Int} (h : row e g wr l) : g < wr.heap.size := by
  obtain ⟨C, m, hg, h2⟩ := h
  exact (Array.getElem?_eq_some_iff.1 hg).1
theorem setsize (w : World) (a : Addr) (v : Value) : (w.setCell a v).heap.size = w.heap.size := by simp [World.setCell]
end Go.Proofs.YtbjbagocnnffaaaDoor.Mk
