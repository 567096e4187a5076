import Derived.Test.YtoihcdahloddkaaDoorZFind2
namespace Go.Proofs.YtoihcdahloddkaaDoor.P
open Go.RowKit Go.Proofs.YtoihcdahloddkaaDoorW.PrintWords Go.Proofs.YtoihcdahloddkaaDoorW.PrintLast Go.Proofs.YtoihcdahloddkaaDoorW.PrintMore
attribute [-simp] Int.tmod_tmod_of_dvd
set_option linter.unusedVariables false
set_option linter.unusedSimpArgs false
theorem wanted_none {o : Oper} (h : o.guard = none) (y : Nat → Option Bool) : Region.wanted o y = true := by
  unfold Region.wanted
  rw [h]
theorem f_load (k p : Nat) (w : World) (h : w.heap[p]? = some (.cells (cs_cells k) 40 (0, 0))) : (Instr.loadAt 40 (.pointer (some ⟨p, 0, none⟩))).run Tryd.prog w = .ok (cs_way k) w := by
  have h0 := cell_of_row w p 0 _ _ _ h
  have h1 := cell_of_row w p 1 _ _ _ h
  have h2 := cell_of_row w p 2 _ _ _ h
  unfold cs_way
  unfold cs_cells at *
  split at h0 <;> (try split at h0) <;> (try split at h0) <;> simp_all <;> go_simp
theorem f_store (k : Nat) (p : Nat) (w : World) (h : w.heap[p]? = some (.cells (cs_cells 0) 40 (0, 0))) : ∃ w', (Instr.storeAt 40 (.pointer (some ⟨p, 0, none⟩)) (cs_way k)).run Tryd.prog w = .ok () w' ∧ w'.heap[p]? = some (.cells (cs_cells k) 40 (0, 0)) ∧ (∀ j, j ≠ p → w'.heap[j]? = w.heap[j]?) ∧ w'.os = w.os ∧ w'.tape = w.tape ∧ w'.output = w.output ∧ w'.heap.size = w.heap.size := by
  have hl : (cs_cells k).toList.length = 3 := by unfold cs_cells; split <;> (try split) <;> (try split) <;> rfl
  have h1 : ∀ q ∈ (cs_cells k).toList, q.oneCell' = true := by unfold cs_cells; split <;> (try split) <;> (try split) <;> simp [Value.oneCell']
  have hrun := run_store_run (P := Tryd.prog) (o := 0) 40 (cs_way k) (cs_cells k).toList h (by rfl) (by rw [hl]; kernel_rfl) (by rw [hl]; decide) h1
  obtain ⟨cur, c1, c2, c3⟩ := setCells_row (cs_cells k).toList 0 w _ h (by rw [hl]; decide)
  obtain ⟨s1, s2, s3, s4⟩ := setCells_same p (cs_cells k).toList 0 w
  refine ⟨_, hrun, ?_, fun j hj => setCells_far _ 0 j hj, s1, s2, s3, s4⟩
  rw [c1]
  have : cur = cs_cells k := by
    apply Array.ext'
    rw [c3, hl]
    simp [cs_cells]
  rw [this]
theorem f_zero (w : World) : (zeroValue 40).run Tryd.prog w = .ok (cs_way 0) w := by kernel_rfl
theorem f_alloc (w : World) : (Instr.alloc 40 true (.tuple #[])).run Tryd.prog w = .ok (.pointer (some ⟨w.heap.size, 0, none⟩)) (w.alloc (.cells (cs_cells 0) 40)) := by
  unfold cs_cells
  go_simp
section
variable {Q : Exit → Act → World → Prop} {I : Array Bool → Act → World → Prop} {w0 w w1 : World} {s : ByteArray} {p2 p5 : Nat} {L : Array Bool} {a : Act} {i d : Nat} {v : Value} {x : Operand}
theorem f_value (hi : i < 27) (hg : (fo i).guard = none) (hd : (fo i).dst = some d) (hrun : (execOp a.eval (fo i)).run Tryd.prog w = .ok (.value v) w1) (h : I (L.setIfInBounds i true) (a.put (some d) v) w1) :
    wpOp Tryd.prog fops Q i (fun a' w' => I (L.setIfInBounds i true) a' w') a w :=
  wpOp_step (fo_at i hi) (fun K' hK => value_ (N := (fo i).dst) (wanted_none hg _) rfl hrun (by rw [hd]; exact hK _ _ h))
theorem f_skip (hi : i < 27) (hg : (fo i).guard = none) (hd : (fo i).dst = none) (hrun : (execOp a.eval (fo i)).run Tryd.prog w = .ok .skip w1) (h : I (L.setIfInBounds i true) a w1) :
    wpOp Tryd.prog fops Q i (fun a' w' => I (L.setIfInBounds i true) a' w') a w :=
  wpOp_step (fo_at i hi) (fun K' hK => by
    have := skip_ (P := Tryd.prog) (ops := fops) (Q := Q) (K := K') (wanted_none hg (yielded fops a.tmps)) hd hrun (hK _ _ h)
    rw [hd]
    exact this)
theorem f_move (hop : (fo i).op = .move x) (hx : a.eval x = v) : (execOp a.eval (fo i)).run Tryd.prog w = .ok (.value v) w := by
  unfold execOp
  simp only [hop, hx]
  rfl
theorem f_call (hi : i < 27) (hg : (fo i).guard = none) (hd : (fo i).dst = some d) {f : Nat} {fn : Func} {xs : Array Operand} {ts : Array TypeId} (hf : Tryd.prog.funcs[f]? = some fn) (hname : (fn.name == "runtime.NumGoroutine") = false) (hb : fn.body.isSome = true)
    {c : Operand} (hop : (fo i).op = .call { callee := .value c, args := xs, argTypes := ts }) (hc : a.eval c = .func (.func f) #[] #[]) {args : Array Value} (hargs : xs.map a.eval = args)
    (h : Calls Tryd.prog f args w fun e w' => ∃ v, e = .returned v ∧ I (L.setIfInBounds i true) (a.put (some d) v) w') :
    wpOp Tryd.prog fops Q i (fun a' w' => I (L.setIfInBounds i true) a' w') a w :=
  wpOp_step (fo_at i hi) (fun K' hK => by
    have he := enters_ hf hname hb args w
    refine call_ (N := (fo i).dst) f args (wanted_none hg _) rfl ?_ (h.mono fun e w' hh => ?_)
    · unfold execOp
      simp [hop, resolve, Deferred.ofValue, invoke, hc, hargs, he]
    · obtain ⟨v, rfl, hv⟩ := hh
      exact ⟨v, rfl, by rw [hd]; exact hK _ _ hv⟩)
end
end Go.Proofs.YtoihcdahloddkaaDoor.P
