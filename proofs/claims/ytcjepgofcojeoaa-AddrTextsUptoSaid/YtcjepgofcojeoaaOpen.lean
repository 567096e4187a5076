/- How an argument's reading opens: by kinds, to whatever depth (whole numbers, bools, strings, slices). No program in sight. -/
import Derived.Test.YtcjepgofcojeoaaWMore
import Derived.SizedLaws
import Derived.ChangeSlices
import Derived.Deep.Slices
set_option linter.unusedVariables false
set_option linter.unusedSimpArgs false
namespace Go.Proofs.Ytcjepgofcojeoaa.Open
open Go.RowKit Go.Deep Go.Proofs.YtcjepgofcojeoaaW.PrintWords

/-- Whatever reads at type t (in memory W, no object above the reach) is of kind k, and good. -/
def Opens {H α : Type} (enc : TypeId × Value → H) (P : Program) (W : World) (base : Nat) (spare : Nat → Bool) (held : Bool) (t : TypeId) (k : Kd α) (good : α → Prop) : Prop :=
  ∀ (fuel : Nat) (cs : List Value) (x : DataW H × List MemPlace), DataW.trod enc P W base spare held fuel t cs = some x → (∀ n ∈ x.1.weights P t, n ≤ reachBytes) → ∃ y, k.K W y cs ∧ good y
section
variable {H α : Type} {enc : TypeId × Value → H} {P : Program} {W : World} {base : Nat} {spare : Nat → Bool} {held : Bool} {t e : TypeId}
theorem opens_int {ik : IntKind} (hu : P.underlying t = some (.int ik)) : Opens enc P W base spare held t (Kd.int ik) (fun x => (Lit.int ik x).wf = true) := by
  intro fuel cs x h _
  obtain ⟨n, rfl, _, hw⟩ := DataW.trod_int hu h
  exact ⟨n, rfl, hw⟩
theorem opens_bool (hu : P.underlying t = some .bool) : Opens enc P W base spare held t Kd.bool (fun _ => True) := by
  intro fuel cs x h _
  obtain ⟨n, rfl, _⟩ := DataW.trod_bool hu h
  exact ⟨n, rfl, trivial⟩
theorem opens_string (hu : P.underlying t = some .string) : Opens enc P W base spare held t Kd.string (fun s => s.size ≤ 140737488351232) := by
  intro fuel cs x h hw
  obtain ⟨s, rfl, rfl, _⟩ := DataW.trod_string hu h
  refine ⟨s, rfl, ?_⟩
  have := hw s.data.toList.length (by simp [DataW.weights])
  rw [Array.length_toList] at this
  exact this
theorem weights_all {xs : List (DataW H)} {x : DataW H} (hx : x ∈ xs) : ∀ n ∈ x.weights P e, n ∈ DataW.weightsAll P e xs := by
  induction xs with
  | nil => cases hx
  | cons y ys ih =>
    intro n hn
    rw [DataW.weightsAll, List.mem_append]
    rcases List.mem_cons.1 hx with rfl | h
    · exact .inl hn
    · exact .inr (ih h n hn)
theorem list_of {Q : Nat → α → Prop} (n : Nat) (h : ∀ i, i < n → ∃ y, Q i y) : ∃ l : List α, l.length = n ∧ ∀ j p, l[j]? = some p → Q j p := by
  induction n with
  | zero => exact ⟨[], rfl, fun j p hj => by simp at hj⟩
  | succ n ih =>
    obtain ⟨l, hl, hq⟩ := ih (fun i hi => h i (by omega))
    obtain ⟨y, hy⟩ := h n (by omega)
    refine ⟨l ++ [y], by simp [hl], fun j p hj => ?_⟩
    by_cases hjn : j < l.length
    · rw [List.getElem?_append_left hjn] at hj
      exact hq j p hj
    · rw [List.getElem?_append_right (by omega)] at hj
      have h0 : j - l.length = 0 := by
        have := (List.getElem?_eq_some_iff.1 hj).1
        simpa using this
      rw [h0] at hj
      have : j = n := by omega
      subst this
      simp at hj
      subst hj
      exact hy
/-- A slice argument, whole: its row, its capacity, what is good of its elements. -/
theorem open_arg {k : Kd α} {good : List α → Prop} {T : TypeId} {a : Option Addr} {len cap : Nat} {d : DataW H} {ps : List MemPlace} (hk : Opens enc P W base spare held T (Kd.slice e k) good) (h : DataW.Trod enc P W base spare held T (.slice a len cap) d ps) (hw : ∀ n ∈ d.weights P T, n ≤ reachBytes) :
    ∃ l : List α, len = l.length ∧ l.length ≤ cap ∧ k.C W a l.length l ∧ good l := by
  obtain ⟨fuel, hf⟩ := h
  obtain ⟨l, ⟨A, c, hcs, hl, hC⟩, hg⟩ := hk fuel _ _ hf hw
  simp [Value.cells] at hcs
  obtain ⟨rfl, rfl, rfl⟩ := hcs
  exact ⟨l, rfl, hl, hC, hg⟩
theorem weights_of {ts : List TypeId} {ds : List (DataW H)} {j : Nat} {T : TypeId} {d : DataW H} (hsz : (DataW.weightsEach P ts ds).all (· ≤ reachBytes) = true) (ht : ts[j]? = some T) (hd : ds[j]? = some d) : ∀ n ∈ d.weights P T, n ≤ reachBytes := by
  intro n hn
  have := List.all_eq_true.1 hsz _ (DataW.weights_mem_each ht hd n hn)
  simpa using this
theorem opens_slice {k : Kd α} {good : α → Prop} {B : Nat} (hu : P.underlying t = some (.slice e)) (hc : P.cellsOf e = k.sz) (hB : P.bytesOf e = B) (hk : Opens enc P W base spare held e k good) :
    Opens enc P W base spare held t (Kd.slice e k) (fun l => l.length ≤ maxLen ∧ l.length * B ≤ 140737488351232 ∧ ∀ x ∈ l, good x) := by
  intro fuel cs x h hw
  rcases open_slice hu h with ⟨rfl, rfl⟩ | ⟨a, len, cap, m, n, D, Pl, rfl, _, hl, hm, hmm, rfl, hx⟩
  · exact ⟨[], ⟨none, 0, rfl, by simp, rfl, by simp, fun h0 => absurd h0 (by simp)⟩, by simp, by simp, fun x hx => by cases hx⟩
  · have hlm : len ≤ m := by rw [hmm]; split <;> omega
    rw [DataW.weights, hu] at hw
    have each : ∀ i, i < len → ∃ y, ∃ cs', W.cells? base (a.add (i * P.cellsOf e)) (P.cellsOf e) = some cs' ∧ k.K W y cs' ∧ good y := by
      intro i hi
      obtain ⟨cs', h1, h2⟩ := hx i (by omega)
      obtain ⟨y, hy, hg⟩ := hk _ _ _ h2 (fun n hn => hw n (List.mem_cons_of_mem _ (List.mem_append_left _ (weights_all (List.mem_map.2 ⟨i, List.mem_range.2 hi, rfl⟩) n hn))))
      exact ⟨y, cs', h1, hy, hg⟩
    obtain ⟨l, hll, hlq⟩ := list_of len each
    have hmax : len ≤ 9223372036854775807 := Nat.le_trans hl hm
    have hwt : len * B ≤ 140737488351232 := by
      have := hw _ List.mem_cons_self
      simp only [List.length_map, List.length_range] at this
      rw [hB] at this
      exact Nat.le_trans (Nat.mul_le_mul_right B (by omega)) this
    refine ⟨l, ⟨some a, cap, by rw [hll], by omega, rfl, by omega, fun _ => ⟨a, rfl, fun j p hj => ?_⟩⟩, by rw [hll]; exact hmax, by rw [hll]; exact hwt, fun x hxm => ?_⟩
    · obtain ⟨cs', h1, h2, _⟩ := hlq j p hj
      obtain ⟨_, h3, h4⟩ := World.cells?_some h1
      refine ⟨cs', k.K_len h2, h2, fun i u hu => ?_⟩
      have hi : i < cs'.length := (List.getElem?_eq_some_iff.1 hu).1
      have := h4 i (by omega)
      rw [hu, Addr.add_add, hc] at this
      exact this
    · obtain ⟨j, hj⟩ := List.getElem?_of_mem hxm
      obtain ⟨_, _, _, h3⟩ := hlq j x hj
      exact h3
end
end Go.Proofs.Ytcjepgofcojeoaa.Open
