/- AddrTexts, where what it reads is of bulk at most 1048576: the row's proof: the slice of addresses opened, the walk, the argument read behind the call as it did. -/
import Derived.Test.YtcjepgofcojeoaaRows
import Derived.Test.YtcjepgofcojeoaaPx8
import Derived.Test.YtcjepgofcojeoaaPureAddrTexts
import Derived.Test.YtcjepgofcojeoaaOpen
import Derived.Test.YtcjepgofcojeoaaWMore
import Derived.WalkKit
import Derived.ProofKit
import Derived.OpenShut
import Derived.JoinedCond
import Derived.Lib.SmallJoins
import Derived.Below
namespace Go.Proofs.Ytcjepgofcojeoaa.addrTexts
open Go.ChangeShapes Go.WideShapes Go.ChangeAt Go.RowKit Go.Deep Go.Joins
set_option linter.unusedVariables false
theorem laidOut : laidOutB Try.prog = true := by kernel_rfl
theorem own : ownKnob Try.prog.godebug = none := by kernel_rfl
theorem bulk_part {H : Type} {d : DataW H} {l : List (DataW H)} (h : d ∈ l) : Rows.uptoBulk d ≤ Rows.uptoBulkAll l := by
  induction l with
  | nil => cases h
  | cons x r ih =>
    simp only [Rows.uptoBulkAll]
    cases List.mem_cons.1 h with
    | inl e => subst e; omega
    | inr e => have := ih e; omega
section
variable {H : Type} {enc : TypeId × Value → H} {W : World} {base : Nat} {spare : Nat → Bool} {held : Bool}
theorem open_adr {fuel : Nat} {cs : List Value} {x : DataW H × List MemPlace} (h : DataW.trod enc Try.prog W base spare held fuel 27 cs = some x) : ∃ y : P.S27, P.k27.K W y cs ∧ y.f1.size + y.f2.size + y.f3.size ≤ Rows.uptoBulk x.1 := by
  obtain ⟨y0, y1, y2, y3, n, rfl, hl, h0, h1, h2, h3⟩ := trod_struct4 Try.underlying27 h
  have c27 : Try.prog.cellsOf 27 = 4 := by kernel_rfl
  have c3 : Try.prog.cellsOf 3 = 1 := by kernel_rfl
  have c9 : Try.prog.cellsOf 9 = 1 := by kernel_rfl
  rw [c27] at hl
  match cs, hl with
  | [v0, v1, v2, v3], _ =>
    simp only [c3, c9] at h0 h1 h2 h3
    obtain ⟨q, e0, f0, _⟩ := DataW.trod_int Try.underlying3 h0
    obtain ⟨s1, e1, f1, _⟩ := DataW.trod_string Try.underlying9 h1
    obtain ⟨s2, e2, f2, _⟩ := DataW.trod_string Try.underlying9 h2
    obtain ⟨s3, e3, f3, _⟩ := DataW.trod_string Try.underlying9 h3
    have g0 : v0 = .int .i64 q := by simpa using e0
    have g1 : v1 = .string s1 := by simpa using e1
    have g2 : v2 = .string s2 := by simpa using e2
    have g3 : v3 = .string s3 := by simpa using e3
    subst g0 g1 g2 g3
    refine ⟨⟨q, s1, s2, s3⟩, P.k27_mk W _, ?_⟩
    rw [f0, f1, f2, f3]
    have z : ∀ s : ByteArray, s.data.toList.length = s.size := fun s => Array.length_toList
    simp only [Rows.uptoBulk, Rows.uptoBulkAll, z]
    omega
theorem open_adrs {v : Value} {d : DataW H} {p : List MemPlace} {A : Option Addr} {len cap : Nat} (hv : v = .slice A len cap) (h : DataW.Trod enc Try.prog W base spare held 23 v d p) (hb : Rows.uptoBulk d ≤ 1048576) :
    ∃ l : List P.S27, len = l.length ∧ l.length ≤ cap ∧ Go.Proofs.YtcjepgofcojeoaaW.PrintWords.Kd.C P.k27 W A l.length l ∧ ∀ a ∈ l, Ad.fits a := by
  obtain ⟨fuel, hf⟩ := h
  subst hv
  have c27 : Try.prog.cellsOf 27 = 4 := by kernel_rfl
  rcases open_slice Try.underlying23 hf with ⟨e, e2⟩ | ⟨a, len', cap', m, n, D, Pl, e, _, hl, hm, hmm, e2, hx⟩
  · simp only [Value.cells] at e
    obtain ⟨rfl, rfl, rfl⟩ : A = none ∧ len = 0 ∧ cap = 0 := by simpa using e
    exact ⟨[], rfl, Nat.le_refl _, Go.Proofs.YtcjepgofcojeoaaW.PrintWords.Kd.C_nil _ _, fun a ha => by cases ha⟩
  · simp only [Value.cells] at e
    obtain ⟨rfl, rfl, rfl⟩ : A = some a ∧ len = len' ∧ cap = cap' := by simpa using e
    have hlm : len ≤ m := by rw [hmm]; split <;> omega
    simp only [Prod.mk.injEq] at e2
    obtain ⟨rfl, _⟩ := e2
    simp only [Rows.uptoBulk] at hb
    have each : ∀ i, i < len → ∃ y : P.S27, ∃ cs', W.cells? base (a.add (i * Try.prog.cellsOf 27)) (Try.prog.cellsOf 27) = some cs' ∧ P.k27.K W y cs' ∧ Ad.fits y := by
      intro i hi
      obtain ⟨cs', h1, h2⟩ := hx i (by omega)
      obtain ⟨y, hy, hz⟩ := open_adr h2
      have hd : Rows.uptoBulk (D i) ≤ Rows.uptoBulkAll ((List.range len).map D) := bulk_part (List.mem_map.2 ⟨i, List.mem_range.2 hi, rfl⟩)
      simp only at hz
      exact ⟨y, cs', h1, hy, by unfold Ad.fits; omega⟩
    obtain ⟨l, hll, hlq⟩ := Open.list_of len each
    have hmax : len ≤ 9223372036854775807 := Nat.le_trans hl hm
    refine ⟨l, hll.symm, by omega, ⟨rfl, by omega, fun _ => ⟨a, rfl, fun j p hj => ?_⟩⟩, fun x hxm => ?_⟩
    · obtain ⟨cs', h1, h2, _⟩ := hlq j p hj
      obtain ⟨_, h3, h4⟩ := World.cells?_some h1
      refine ⟨cs', P.k27.K_len h2, h2, fun i u hu => ?_⟩
      have hi : i < cs'.length := (List.getElem?_eq_some_iff.1 hu).1
      have := h4 i (by omega)
      rw [hu, Addr.add_add, c27] at this
      exact this
    · obtain ⟨j, hj⟩ := List.getElem?_of_mem hxm
      obtain ⟨_, _, _, h3⟩ := hlq j x hj
      exact h3
end
set_option maxRecDepth 100000 in
theorem lifted (os : Os) (started : os.Started) (H : Type) (enc : TypeId × Value → H) (F : Stop.Interp) :
    ReturnsInHanded {} Try.checked os 5 .any ((Rows.OpenSpec.upto Rows.addrTextsSpec).pre6 enc Try.prog Try.f5 Rows.addrTextsUptoRow.domain false) (((Rows.OpenSpec.upto Rows.addrTextsSpec).at F).post enc Try.prog Try.f5 false true false false) := by
  refine returnsInHanded_of_cond (C := Try.checked) (s := Rows.OpenSpec.upto Rows.addrTextsSpec) (k := Rows.uptoSmall) rfl own started (by kernel_rfl) Try.func5
    (OpenSpec.witness (enc := enc) (C := Try.checked) (s := Rows.OpenSpec.upto Rows.addrTextsSpec) (k := Rows.uptoSmall) rfl false ⟨#[], #[.slice none 0 0], []⟩ 8 (by kernel_rfl) (by kernel_rfl) (by kernel_rfl)
      (x := ([.nil], [], [])) (by kernel_rfl) rfl (by kernel_rfl)) ?_
  intro W base args ds gs before hval0 hW hcnd hk _
  have hval : ∀ (j : Nat) t v, Try.f5.params[j]? = some t → args[j]? = some v → Value.okWide Try.prog W .any base t v := hval0
  have hW' := hW
  obtain ⟨p, q, hA0, hV, rfl, hfz, hnd⟩ := hW
  have hA : DataW.TrodAll enc Try.prog W 0 (fun _ => true) true Try.f5.params.toList args.toList ds p := hA0
  rw [Try.params5] at hA hval
  obtain ⟨v0, vs0, d0, ds0, p0, q0, hargs, rfl, rfl, h0, r0⟩ := trodAll_cons hA
  obtain ⟨rfl, rfl, rfl⟩ := trodAll_nil r0
  obtain rfl : args = #[v0] := by cases args; simp_all
  obtain ⟨rfl, rfl⟩ := trodVars_none hV
  have k0 := h0
  have lt0 : ∀ x ∈ p0, x.block < W.heap.size := by obtain ⟨m, hm⟩ := k0; exact DataW.trod_lt m _ _ _ hm
  obtain ⟨A0, len0, cap0, rfl⟩ := okWide_slice Try.underlying23 (hval 0 23 v0 rfl rfl)
  have hbulk : Rows.uptoBulkAll [d0] ≤ 1048576 := of_decide_eq_true hk
  obtain ⟨l, rfl, hl, hC, hg⟩ := open_adrs rfl h0 (by simp only [Rows.uptoBulkAll] at hbulk; omega)
  clear hA0 hval0
  obtain ⟨k, hk2⟩ := Pure.AddrTexts l hg
  refine (P.letterboxlaw10_AddrTexts.calls k A0 cap0 l true W hC hl hk2).mono fun e W' ⟨he, bel⟩ => ?_
  subst he
  exact ⟨_, rfl, _, _, _, [], _, [], hW', trodAll_mk1 (shut_bool Try.underlying4 _), (trodAll_cons_mk (Below.trod laidOut (by kernel_rfl) (of_decide_eq_true (by kernel_rfl)) k0 bel lt0) trodAll_mk0), rfl, bel.frame _, fun h => by cases h⟩
theorem proved : Rows.AddrTextsUptoSaid :=
  OpenClaim.holds_of_cond 5 Try.f5 rfl rfl rfl rfl rfl rfl rfl ⟨rfl, rfl, rfl, rfl, rfl⟩ rfl rfl rfl rfl rfl (by kernel_rfl) Try.func5 (by kernel_rfl)
    (of_decide_eq_true (by kernel_rfl)) (by unfold Func.isWrapper; first | (rw [if_pos (by decide +kernel)]; kernel_rfl) | (rw [if_neg (by decide +kernel)]; exact ⟨rfl, rfl⟩))
    (fun os started H enc _ F => lifted os started H enc F)
#print axioms proved
end Go.Proofs.Ytcjepgofcojeoaa.addrTexts
namespace Go.Proofs.Ytcjepgofcojeoaa
/-- The statement, under a short name, for the claim. -/
theorem addrTexts_holds : Rows.AddrTextsUptoSaid := addrTexts.proved
end Go.Proofs.Ytcjepgofcojeoaa
