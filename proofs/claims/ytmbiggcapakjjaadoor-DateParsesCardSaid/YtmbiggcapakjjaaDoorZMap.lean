-- Cut by a program of this session (wip/tools/prunew.py): what this claim does not need is left out.
import Derived.Test.YtmbiggcapakjjaaDoorPx0
import Derived.MapKept
import Derived.Laws.EntriesVeiled
namespace Go.Proofs.YtmbiggcapakjjaaDoor.P
open Go.RowKit Go.Proofs.YtmbiggcapakjjaaDoorW.PrintWords Go.Proofs.YtmbiggcapakjjaaDoorW.PrintLast Go.Proofs.YtmbiggcapakjjaaDoorW.PrintMore
attribute [-simp] Int.tmod_tmod_of_dvd
set_option linter.unusedVariables false
set_option linter.unusedSimpArgs false
def mlook : List MapEntry → ByteArray → Option Value
  | [], _ => none
  | e :: t, k => if Instr.sameNow .string (.string k) e.key = some true then some e.val else mlook t k
theorem mlook_none (k : ByteArray) : ∀ (l : List MapEntry) (i : Nat), (∀ x ∈ l, MapKept.IsKey .string x.key) → mlook l k = none → Instr.findNow .string (.string k) l i = some none
  | [], _, _, _ => rfl
  | e :: t, i, h, hl => by
    obtain ⟨r, hr, _⟩ := MapKept.sameNow_of_keys (d := .string) (a := .string k) (by simp [MapKept.IsKey]) (h e (List.mem_cons_self))
    unfold mlook at hl
    cases r with
    | true => rw [if_pos hr] at hl; cases hl
    | false =>
      rw [if_neg (by rw [hr]; decide)] at hl
      simp only [Instr.findNow, hr]
      exact mlook_none k t (i + 1) (fun x hx => h x (List.mem_cons_of_mem _ hx)) hl
theorem mlook_some (k : ByteArray) (v : Value) : ∀ (l : List MapEntry) (i : Nat), (∀ x ∈ l, MapKept.IsKey .string x.key) → mlook l k = some v → ∃ j, Instr.findNow .string (.string k) l i = some (some (j, v))
  | [], _, _, hl => by cases hl
  | e :: t, i, h, hl => by
    obtain ⟨r, hr, _⟩ := MapKept.sameNow_of_keys (d := .string) (a := .string k) (by simp [MapKept.IsKey]) (h e (List.mem_cons_self))
    unfold mlook at hl
    cases r with
    | true =>
      rw [if_pos hr] at hl
      exact ⟨i, by simp only [Instr.findNow, hr]; rw [Option.some.inj hl]⟩
    | false =>
      rw [if_neg (by rw [hr]; decide)] at hl
      obtain ⟨j, hj⟩ := mlook_some k v t (i + 1) (fun x hx => h x (List.mem_cons_of_mem _ hx)) hl
      exact ⟨j, by simp only [Instr.findNow, hr]; exact hj⟩
theorem mlook_push (k key : ByteArray) (v : Value) (c : Nat) : ∀ l : List MapEntry, mlook l key = none → mlook (l ++ [⟨.string key, v, c⟩]) k = if k = key then some v else mlook l k
  | [], _ => by
    simp only [List.nil_append, mlook, Instr.sameNow]
    by_cases e : k = key
    · subst e; simp [MapKept.bytes_beq]
    · have : (k == key) = false := by
        cases h : k == key with
        | false => rfl
        | true => exact absurd ((MapKept.bytes_beq k key).1 h) e
      simp [this, e]
  | e :: t, h => by
    unfold mlook at h
    by_cases h1 : Instr.sameNow .string (.string key) e.key = some true
    · rw [if_pos h1] at h; cases h
    · rw [if_neg h1] at h
      show (if Instr.sameNow .string (.string k) e.key = some true then some e.val else mlook (t ++ [⟨.string key, v, c⟩]) k) = if k = key then some v else (if Instr.sameNow .string (.string k) e.key = some true then some e.val else mlook t k)
      rw [mlook_push k key v c t h]
      by_cases h2 : Instr.sameNow .string (.string k) e.key = some true
      · rw [if_pos h2, if_pos h2]
        by_cases e1 : k = key
        · subst e1; exact absurd h2 h1
        · rw [if_neg e1]
      · rw [if_neg h2, if_neg h2]
def MapIs (w : World) (B : Nat) (f : ByteArray → Option Value) : Prop := ∃ es ck, w.heap[B]? = some (.map es ck) ∧ (∀ x ∈ es.toList, MapKept.IsKey .string x.key) ∧ ∀ k, mlook es.toList k = f k
theorem MapIs.lt {w : World} {B : Nat} {f : ByteArray → Option Value} (h : MapIs w B f) : B < w.heap.size := by
  obtain ⟨es, ck, h1, _⟩ := h
  exact (Array.getElem?_eq_some_iff.1 h1).1
theorem MapIs.same {w w' : World} {B : Nat} {f g : ByteArray → Option Value} (h : MapIs w B f) (hb : w'.heap[B]? = w.heap[B]?) (hf : ∀ k, f k = g k) : MapIs w' B g := by
  obtain ⟨es, ck, h1, h2, h3⟩ := h
  exact ⟨es, ck, hb.trans h1, h2, fun k => (h3 k).trans (hf k)⟩
section
variable {P : Program} {w : World} {B mt kt et : Nat} {f : ByteArray → Option Value}
theorem MapIs.insert (h : MapIs w B f) (hm : P.underlying mt = some (.map kt et)) (hk : P.underlying kt = some .string) (key : ByteArray) (v : Value) (hf : f key = none) :
    ∃ w', (Instr.mapUpdate mt (.map (some B)) (.string key) v).run P w = .ok () w' ∧ MapIs w' B (fun k => if k = key then some v else f k) ∧ (∀ k, k ≠ B → w'.heap[k]? = w.heap[k]?) ∧ w'.os = w.os ∧ w'.tape = w.tape ∧ w'.output = w.output ∧ w'.heap.size = w.heap.size := by
  obtain ⟨es, ck, h1, h2, h3⟩ := h
  have hnone : mlook es.toList key = none := (h3 key).trans hf
  have hfind := mlook_none key es.toList 0 h2 hnone
  have hc : (Instr.checkKey false 10000 kt (.string key)).run P w = .ok () w := MapKept.run_checkKey (k := .string key) hk (by simp [MapKept.IsKey]) false 9999
  have hlt : B < w.heap.size := (Array.getElem?_eq_some_iff.1 h1).1
  refine ⟨{ w with heap := w.heap.setIfInBounds B (.map (es.push ⟨.string key, v, ck⟩) (ck + 1)) }, ?_, ⟨es.push ⟨.string key, v, ck⟩, ck + 1, by simp [hlt], ?_, ?_⟩, ?_, rfl, rfl, rfl, by simp⟩
  · simp [Instr.mapUpdate, run_underlying hm, MapKept.run_getObj_map h1, hc, MapKept.run_findKey hk hfind, MapKept.run_setObj_map _ h1, Result.andThen]
  · intro x hx
    simp only [Array.toList_push, List.mem_append, List.mem_singleton] at hx
    rcases hx with hx | rfl
    · exact h2 x hx
    · simp [MapKept.IsKey]
  · intro k
    rw [Array.toList_push, mlook_push k key v ck _ hnone, h3 k]
  · intro k hk
    simp [Ne.symm hk]
theorem MapIs.lookup (h : MapIs w B f) (hm : P.underlying mt = some (.map kt et)) (hk : P.underlying kt = some .string) (key : ByteArray) {z : Value} (hz : (zeroValue et).run P w = .ok z w) :
    (Instr.lookup mt (.map (some B)) (.string key) true).run P w = .ok (.tuple #[(f key).getD z, .bool (f key).isSome]) w := by
  obtain ⟨es, ck, h1, h2, h3⟩ := h
  have hc : ∀ e, (Instr.checkKey e 10000 kt (.string key)).run P w = .ok () w := fun e => MapKept.run_checkKey (k := .string key) hk (by simp [MapKept.IsKey]) e 9999
  cases hf : f key with
  | none =>
    have hfind := mlook_none key es.toList 0 h2 ((h3 key).trans hf)
    simp [Instr.lookup, run_underlying hm, MapKept.run_getObj_map h1, hc, MapKept.run_findKey hk hfind, Result.andThen, hz]
  | some v =>
    obtain ⟨j, hfind⟩ := mlook_some key v es.toList 0 h2 ((h3 key).trans hf)
    simp [Instr.lookup, run_underlying hm, MapKept.run_getObj_map h1, hc, MapKept.run_findKey hk hfind, Result.andThen]
theorem MapIs.lookup1 (h : MapIs w B f) (hm : P.underlying mt = some (.map kt et)) (hk : P.underlying kt = some .string) (key : ByteArray) {z : Value} (hz : (zeroValue et).run P w = .ok z w) :
    (Instr.lookup mt (.map (some B)) (.string key) false).run P w = .ok ((f key).getD z) w := by
  obtain ⟨es, ck, h1, h2, h3⟩ := h
  have hc : ∀ e, (Instr.checkKey e 10000 kt (.string key)).run P w = .ok () w := fun e => MapKept.run_checkKey (k := .string key) hk (by simp [MapKept.IsKey]) e 9999
  cases hf : f key with
  | none =>
    have hfind := mlook_none key es.toList 0 h2 ((h3 key).trans hf)
    simp [Instr.lookup, run_underlying hm, MapKept.run_getObj_map h1, hc, MapKept.run_findKey hk hfind, Result.andThen, hz]
  | some v =>
    obtain ⟨j, hfind⟩ := mlook_some key v es.toList 0 h2 ((h3 key).trans hf)
    simp [Instr.lookup, run_underlying hm, MapKept.run_getObj_map h1, hc, MapKept.run_findKey hk hfind, Result.andThen]
end
structure ZM (w0 w : World) (B : Nat) (f : ByteArray → Option Value) : Prop where
  is : MapIs w B f
  own : w0.heap.size ≤ B
  bel : Below w0.heap.size w0 w
theorem ZM.new {w0 w : World} (h : Below w0.heap.size w0 w) : ZM w0 (w.alloc (.map #[] 0)) w.heap.size (fun _ => none) :=
  ⟨⟨#[], 0, by unfold World.alloc; exact Array.getElem?_push_size, by simp, fun k => rfl⟩, h.size, below_alloc h _⟩
theorem ZM.grow {w0 w w' : World} {B : Nat} {f : ByteArray → Option Value} (h : ZM w0 w B f) (hb : Below w.heap.size w w') : ZM w0 w' B f :=
  ⟨h.is.same (hb.block B h.is.lt) (fun _ => rfl), h.own, h.bel.trans (hb.mono h.bel.size)⟩
theorem wanted_none {o : Oper} (h : o.guard = none) (y : Nat → Option Bool) : Region.wanted o y = true := by
  unfold Region.wanted
  rw [h]
section
variable {P : Program} {ops : Array Oper} {Q : Exit → Act → World → Prop} {rest : List Oper} {a : Act} {w0 w : World} {B mt kt et : Nat} {f : ByteArray → Option Value} {mo ko : Operand} {ty : TypeId} {pos : String} {after : Array Edge}
theorem wpl_make {d : Nat} (H : Below w0.heap.size w0 w)
    (hK : ∀ w', ZM w0 w' w.heap.size (fun _ => none) → wpList P ops Q rest (a.put (some d) (.map (some w.heap.size))) w') :
    wpList P ops Q (⟨some d, .makeMap mt none, ty, pos, after, none⟩ :: rest) a w := by
  refine wpList_step fun K hk => ?_
  have := value_ (P := P) (ops := ops) (Q := Q) (K := K) (oi := ⟨some d, .makeMap mt none, ty, pos, after, none⟩) (w := w) (w1 := w.alloc (.map #[] 0)) (v := .map (some w.heap.size)) (N := some d) (wanted_none rfl (yielded ops a.tmps)) rfl ?_ (hk _ _ (hK _ (ZM.new H)))
  · exact this
  unfold execOp
  simp [Instr.makeMap]
theorem wpl_insert (hmk : P.underlying mt = some (.map kt et) ∧ P.underlying kt = some .string) (H : ZM w0 w B f) (key : ByteArray) (v : Value) (hma : a.eval mo = .map (some B)) (hf : f key = none)
    (hK : ∀ w', ZM w0 w' B (fun k => if k = key then some v else f k) → wpList P ops Q rest a w') :
    wpList P ops Q (⟨none, .insert mt mo (.const (.string key)) (.const v), ty, pos, after, none⟩ :: rest) a w := by
  obtain ⟨w1, hrun, hm1, hfar, q1, q2, q3, q4⟩ := H.is.insert hmk.1 hmk.2 key v hf
  refine wpList_step fun K hk => ?_
  have hb : Below w0.heap.size w0 w1 := ⟨q1.trans H.bel.os, q2.trans H.bel.tape, q3.trans H.bel.output, by rw [q4]; exact H.bel.size, fun k hk => (hfar k (by have := H.own; omega)).trans (H.bel.block k hk)⟩
  have := skip_ (P := P) (ops := ops) (Q := Q) (K := K) (oi := ⟨none, .insert mt mo (.const (.string key)) (.const v), ty, pos, after, none⟩) (w := w) (w1 := w1) (wanted_none rfl (yielded ops a.tmps)) rfl ?_ (hk a w1 (hK w1 ⟨hm1, H.own, hb⟩))
  · exact this
  · unfold execOp
    simp only [Act.eval] at hma ⊢
    simp only [hma, Sem.run_bind, hrun]
    rfl
theorem wpl_lookup {d : Nat} (hmk : P.underlying mt = some (.map kt et) ∧ P.underlying kt = some .string) (H : ZM w0 w B f) (key : ByteArray) {z : Value} (hz : (zeroValue et).run P w = .ok z w) (hma : a.eval mo = .map (some B)) (hka : a.eval ko = .string key)
    (hK : wpList P ops Q rest (a.put (some d) ((f key).getD z)) w) :
    wpList P ops Q (⟨some d, .lookup mt mo ko false, ty, pos, after, none⟩ :: rest) a w := by
  refine wpList_step fun K hk => ?_
  have := value_ (P := P) (ops := ops) (Q := Q) (K := K) (oi := ⟨some d, .lookup mt mo ko false, ty, pos, after, none⟩) (w := w) (w1 := w) (v := (f key).getD z) (N := some d) (wanted_none rfl (yielded ops a.tmps)) rfl ?_ (hk _ _ hK)
  · exact this
  unfold execOp
  simp only [Act.eval] at hma hka ⊢
  simp only [hma, hka, Sem.run_bind, H.is.lookup1 hmk.1 hmk.2 key hz]
  rfl
end
end Go.Proofs.YtmbiggcapakjjaaDoor.P
