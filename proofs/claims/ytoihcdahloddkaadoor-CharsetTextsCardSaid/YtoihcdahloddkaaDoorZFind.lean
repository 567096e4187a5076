import Derived.Test.YtoihcdahloddkaaDoorZNar
namespace Go.Proofs.YtoihcdahloddkaaDoor.P
open Go.RowKit Go.Proofs.YtoihcdahloddkaaDoorW.PrintWords Go.Proofs.YtoihcdahloddkaaDoorW.PrintLast Go.Proofs.YtoihcdahloddkaaDoorW.PrintMore
attribute [-simp] Int.tmod_tmod_of_dvd
set_option linter.unusedVariables false
set_option linter.unusedSimpArgs false
/-! ### a region that draws its order, by what holds whatever has come up -/
def rg_ops (k : Nat) : Code → Option (Array Oper)
  | .region id ops _ => if id = k then some ops else none
  | .seq x y => (rg_ops k x).orElse fun _ => rg_ops k y
  | _ => none
section
variable {P : Program} {ops : Array Oper} {Q : Exit → Act → World → Prop} {md : Region.Mode} {I : Array Bool → Act → World → Prop}
theorem inv_any (hstep : ∀ i L a w, L.size = ops.size → i ∈ Region.ready md ops L → I L a w → wpOp P ops Q i (fun a' w' => I (L.setIfInBounds i true) a' w') a w)
    (hend : ∀ L a w, L.size = ops.size → Region.ready md ops L = [] → I L a w → Q .normal a w) :
    ∀ (fuel : Nat) (L : Array Bool) (a : Act) (w : World), L.size = ops.size → L.toList.count false ≤ fuel → I L a w → wpAny P md ops Q fuel L a w
  | 0, L, a, w, hs, hc, hI => by
    have hr : Region.ready md ops L = [] := by
      cases h : Region.ready md ops L with
      | nil => rfl
      | cons i t =>
        exfalso
        have hm : i ∈ Region.ready md ops L := by rw [h]; exact List.mem_cons_self
        obtain ⟨h1, o, ho, _⟩ := mem_ready.1 hm
        have hlt : i < L.size := by rw [hs]; exact (Array.getElem?_eq_some_iff.1 ho).1
        have h2 : false ∈ L.toList := by
          rw [Array.getD_eq_getD_getElem?, Array.getElem?_eq_getElem hlt] at h1
          simp only [Option.getD_some] at h1
          rw [← h1]; exact Array.getElem_mem_toList hlt
        have := List.count_pos_iff.2 h2
        omega
    exact ⟨hr, hend L a w hs hr hI⟩
  | fuel + 1, L, a, w, hs, hc, hI => by
    refine ⟨fun hr => hend L a w hs hr hI, fun i hi => ?_⟩
    obtain ⟨h1, o, ho, _⟩ := mem_ready.1 hi
    have hlt : i < L.size := by rw [hs]; exact (Array.getElem?_eq_some_iff.1 ho).1
    rw [Array.getD_eq_getD_getElem?, Array.getElem?_eq_getElem hlt] at h1
    simp only [Option.getD_some] at h1
    refine wpOp_mono (fun a' w' h => ?_) (hstep i L a w hs hi hI)
    refine inv_any hstep hend fuel _ a' w' (by rw [Array.size_setIfInBounds]; exact hs) ?_ h
    have hl : i < L.toList.length := by simpa using hlt
    have h3 : L.toList[i] = false := by simpa using h1
    have h4 : (L.setIfInBounds i true).toList = L.toList.set i true := by simp
    rw [h4, List.count_set hl, h3, if_pos (by decide), if_neg (by decide)]
    omega
/-- nothing may come up any more: all has come up, where each waits for earlier ones alone -/
theorem all_up {L : Array Bool} (hlow : ∀ k o, ops[k]? = some o → ∀ e ∈ o.after, Region.binds md e = true → e.on < k) (hs : L.size = ops.size) (hr : Region.ready md ops L = []) : ∀ k, k < ops.size → L.getD k false = true := by
  intro k
  induction k using Nat.strongRecOn with
  | _ k ih =>
    intro hk
    cases h : L.getD k true with
    | false =>
      have : k ∈ Region.ready md ops L := mem_ready.2 ⟨h, ops[k], Array.getElem?_eq_getElem hk, fun e he hb => by
        have h1 := hlow k _ (Array.getElem?_eq_getElem hk) e he hb
        exact ih _ h1 (by omega)⟩
      rw [hr] at this
      cases this
    | true =>
      have hlt : k < L.size := by omega
      rw [Array.getD_eq_getD_getElem?, Array.getElem?_eq_getElem hlt] at h ⊢
      exact h
end
theorem gl (L : Array Bool) (i j : Nat) (hi : i < L.size) : (L.setIfInBounds i true).getD j false = (if j = i then true else L.getD j false) := by
  simp only [Array.getD_eq_getD_getElem?, Array.getElem?_setIfInBounds]
  by_cases e : i = j
  · subst e; simp [hi]
  · simp [e, Ne.symm e]
theorem gt (a : Act) (d j : Nat) (v : Value) (hd : d < a.tmps.size) : (a.put (some d) v).tmps.getD j undef = (if j = d then v else a.tmps.getD j undef) := by
  simp only [Act.put, Array.getD_eq_getD_getElem?, Array.getElem?_setIfInBounds]
  by_cases e : d = j
  · subst e; simp [hd]
  · simp [e, Ne.symm e]
/-! ### a map's entries -/
def mlook : List MapEntry → ByteArray → Option Value
  | [], _ => none
  | e :: t, k => if Instr.sameNow .string (.string k) e.key = some true then some e.val else mlook t k
theorem mlook_none (k : ByteArray) : ∀ (l : List MapEntry) (i : Nat), (∀ x ∈ l, MapKept.IsKey .string x.key) → mlook l k = none → Instr.findNow .string (.string k) l i = some none
  | [], _, _, _ => rfl
  | e :: t, i, h, hl => by
    obtain ⟨r, hr, _⟩ := MapKept.sameNow_of_keys (d := .string) (a := .string k) (by simp [MapKept.IsKey]) (h e (List.mem_cons_self))
    unfold mlook at hl
    cases r with
    | true => rw [if_pos hr] at hl; cases hl
    | false =>
      rw [if_neg (by rw [hr]; decide)] at hl
      simp only [Instr.findNow, hr]
      exact mlook_none k t (i + 1) (fun x hx => h x (List.mem_cons_of_mem _ hx)) hl
theorem mlook_some (k : ByteArray) (v : Value) : ∀ (l : List MapEntry) (i : Nat), (∀ x ∈ l, MapKept.IsKey .string x.key) → mlook l k = some v → ∃ j, Instr.findNow .string (.string k) l i = some (some (j, v))
  | [], _, _, hl => by cases hl
  | e :: t, i, h, hl => by
    obtain ⟨r, hr, _⟩ := MapKept.sameNow_of_keys (d := .string) (a := .string k) (by simp [MapKept.IsKey]) (h e (List.mem_cons_self))
    unfold mlook at hl
    cases r with
    | true =>
      rw [if_pos hr] at hl
      exact ⟨i, by simp only [Instr.findNow, hr]; rw [Option.some.inj hl]⟩
    | false =>
      rw [if_neg (by rw [hr]; decide)] at hl
      obtain ⟨j, hj⟩ := mlook_some k v t (i + 1) (fun x hx => h x (List.mem_cons_of_mem _ hx)) hl
      exact ⟨j, by simp only [Instr.findNow, hr]; exact hj⟩
theorem mlook_push (k key : ByteArray) (v : Value) (c : Nat) : ∀ l : List MapEntry, mlook l key = none → mlook (l ++ [⟨.string key, v, c⟩]) k = if k = key then some v else mlook l k
  | [], _ => by
    simp only [List.nil_append, mlook, Instr.sameNow]
    by_cases e : k = key
    · subst e; simp [MapKept.bytes_beq]
    · have : (k == key) = false := by
        cases h : k == key with
        | false => rfl
        | true => exact absurd ((MapKept.bytes_beq k key).1 h) e
      simp [this, e]
  | e :: t, h => by
    unfold mlook at h
    by_cases h1 : Instr.sameNow .string (.string key) e.key = some true
    · rw [if_pos h1] at h; cases h
    · rw [if_neg h1] at h
      show (if Instr.sameNow .string (.string k) e.key = some true then some e.val else mlook (t ++ [⟨.string key, v, c⟩]) k) = if k = key then some v else (if Instr.sameNow .string (.string k) e.key = some true then some e.val else mlook t k)
      rw [mlook_push k key v c t h]
      by_cases h2 : Instr.sameNow .string (.string k) e.key = some true
      · rw [if_pos h2, if_pos h2]
        by_cases e1 : k = key
        · subst e1; exact absurd h2 h1
        · rw [if_neg e1]
      · rw [if_neg h2, if_neg h2]
/-- a map with a string's keys, as it reads -/
def MapIs (w : World) (B : Nat) (f : ByteArray → Option Value) : Prop := ∃ es ck, w.heap[B]? = some (.map es ck) ∧ (∀ x ∈ es.toList, MapKept.IsKey .string x.key) ∧ ∀ k, mlook es.toList k = f k
theorem MapIs.lt {w : World} {B : Nat} {f : ByteArray → Option Value} (h : MapIs w B f) : B < w.heap.size := by
  obtain ⟨es, ck, h1, _⟩ := h
  exact (Array.getElem?_eq_some_iff.1 h1).1
theorem MapIs.same {w w' : World} {B : Nat} {f g : ByteArray → Option Value} (h : MapIs w B f) (hb : w'.heap[B]? = w.heap[B]?) (hf : ∀ k, f k = g k) : MapIs w' B g := by
  obtain ⟨es, ck, h1, h2, h3⟩ := h
  exact ⟨es, ck, hb.trans h1, h2, fun k => (h3 k).trans (hf k)⟩
section
variable {P : Program} {w : World} {B mt kt et : Nat} {f : ByteArray → Option Value}
theorem MapIs.insert (h : MapIs w B f) (hm : P.underlying mt = some (.map kt et)) (hk : P.underlying kt = some .string) (key : ByteArray) (v : Value) (hf : f key = none) :
    ∃ w', (Instr.mapUpdate mt (.map (some B)) (.string key) v).run P w = .ok () w' ∧ MapIs w' B (fun k => if k = key then some v else f k) ∧ (∀ k, k ≠ B → w'.heap[k]? = w.heap[k]?) ∧ w'.os = w.os ∧ w'.tape = w.tape ∧ w'.output = w.output ∧ w'.heap.size = w.heap.size := by
  obtain ⟨es, ck, h1, h2, h3⟩ := h
  have hnone : mlook es.toList key = none := (h3 key).trans hf
  have hfind := mlook_none key es.toList 0 h2 hnone
  have hc : (Instr.checkKey false 10000 kt (.string key)).run P w = .ok () w := MapKept.run_checkKey (k := .string key) hk (by simp [MapKept.IsKey]) false 9999
  have hlt : B < w.heap.size := (Array.getElem?_eq_some_iff.1 h1).1
  refine ⟨{ w with heap := w.heap.setIfInBounds B (.map (es.push ⟨.string key, v, ck⟩) (ck + 1)) }, ?_, ⟨es.push ⟨.string key, v, ck⟩, ck + 1, by simp [hlt], ?_, ?_⟩, ?_, rfl, rfl, rfl, by simp⟩
  · simp [Instr.mapUpdate, run_underlying hm, MapKept.run_getObj_map h1, hc, MapKept.run_findKey hk hfind, MapKept.run_setObj_map _ h1, Result.andThen]
  · intro x hx
    simp only [Array.toList_push, List.mem_append, List.mem_singleton] at hx
    rcases hx with hx | rfl
    · exact h2 x hx
    · simp [MapKept.IsKey]
  · intro k
    rw [Array.toList_push, mlook_push k key v ck _ hnone, h3 k]
  · intro k hk
    simp [Ne.symm hk]
theorem MapIs.lookup (h : MapIs w B f) (hm : P.underlying mt = some (.map kt et)) (hk : P.underlying kt = some .string) (key : ByteArray) {z : Value} (hz : (zeroValue et).run P w = .ok z w) :
    (Instr.lookup mt (.map (some B)) (.string key) true).run P w = .ok (.tuple #[(f key).getD z, .bool (f key).isSome]) w := by
  obtain ⟨es, ck, h1, h2, h3⟩ := h
  have hc : ∀ e, (Instr.checkKey e 10000 kt (.string key)).run P w = .ok () w := fun e => MapKept.run_checkKey (k := .string key) hk (by simp [MapKept.IsKey]) e 9999
  cases hf : f key with
  | none =>
    have hfind := mlook_none key es.toList 0 h2 ((h3 key).trans hf)
    simp [Instr.lookup, run_underlying hm, MapKept.run_getObj_map h1, hc, MapKept.run_findKey hk hfind, Result.andThen, hz]
  | some v =>
    obtain ⟨j, hfind⟩ := mlook_some key v es.toList 0 h2 ((h3 key).trans hf)
    simp [Instr.lookup, run_underlying hm, MapKept.run_getObj_map h1, hc, MapKept.run_findKey hk hfind, Result.andThen]
end
end Go.Proofs.YtoihcdahloddkaaDoor.P
