-- Cut by a program of this session (wip/tools/prunew.py): what this claim does not need is left out.
import Derived.Test.YtmbiggcapakjjaaDoorWMore
import Derived.Lib.SlBytesConst
import Derived.Lib.ConvBytes
set_option linter.unusedVariables false
set_option linter.unusedSimpArgs false
namespace Go.Proofs.YtmbiggcapakjjaaDoor.Conv
open Go.RowKit Go.Proofs.YtmbiggcapakjjaaDoorW.PrintWords Go.Proofs.YtmbiggcapakjjaaDoorW.PrintLast Go.Proofs.YtmbiggcapakjjaaDoorW.PrintMore
theorem row_V {W : World} {g : Nat} {e base c n : Nat} {ok : Nat → Prop} (l : List Int) (hn : l.length = n) (hc : n ≤ c) (h : ReadsInt W .u8 (some ⟨g, 0, none⟩) n l) (hlt : g < W.heap.size) (hok : ok g) :
    Kd.V (Kd.int .u8) e W base ok (.slice (some ⟨g, 0, none⟩) n c) l := by
  subst hn
  refine ⟨_, _, rfl, hc, fun W' hW' => ?_⟩
  refine Kd.C_of_reads (d := (0 : Int)) (h1 := fun _ => rfl) ⟨rfl, h.2.1, fun hp => ?_⟩
  obtain ⟨ad, he, hcell⟩ := h.2.2 hp
  injection he with he
  subst he
  exact ⟨_, rfl, fun j hj => by
    rw [add_plain]
    have h2 := hcell j hj
    rw [add_plain] at h2
    exact (World.cell?_of_block (w := W) (hW' g hok hlt)).trans h2⟩
section
variable {P : Program} {ops : Array Oper} {rest : List Oper} {o : Oper} {a : Act} {Q : Exit → Act → World → Prop} {Kc : Act → World → Prop}
theorem bytes_facts {w0 W : World} {base e : Nat} {s : ByteArray} {ok : Nat → Prop} (hsz : s.size ≤ 9223372036854775807) (hfresh : ok W.heap.size) (HB : Below base w0 W) (hbase : base ≤ W.heap.size) :
    Kd.V (Kd.int .u8) e (Lib.bytesWorld W e s) base ok (.slice (some ⟨W.heap.size, 0, none⟩) s.size (grownCap W s.size 0 e)) (bytesOf s) ∧ Below base w0 (Lib.bytesWorld W e s) ∧ W.grownBy (Lib.bytesWorld W e s) none := by
  have hW := Below.refl W.heap.size W
  have hbw : Below W.heap.size W (Lib.bytesWorld W e s) := bytes_below (h := hW) (Nat.le_refl _) e s
  exact ⟨row_V (bytesOf s) (bytesOf_length s) (grownCap_ge W s.size 0 e) (bytes_reads W e s hsz) (by rw [Lib.bytesWorld_size]; omega) hfresh, HB.trans (hbw.mono hbase), grown_of_below hbw none⟩
theorem bytes {w0 W : World} (base e : Nat) (hgd : o.guard = none) {N : Tmp} (hd : o.dst = some N) (src dst : TypeId) (x : Operand) (ho : o.op = .convert src dst x) (s : ByteArray) (hx : a.eval x = .string s) {u : TypeDesc}
    (hs : P.underlying src = some u) (hdst : P.underlying dst = some (.slice e)) (he : P.underlying e = some (.int .u8)) (hsz : s.size ≤ 9223372036854775807) {ok : Nat → Prop} (hfresh : ok W.heap.size) (HB : Below base w0 W) (hbase : base ≤ W.heap.size)
    (h : ∀ v1 w1, Kd.V (Kd.int .u8) e w1 base ok v1 (bytesOf s) → Below base w0 w1 → W.grownBy w1 none → (∃ b, v1.ownBlock = some b ∧ W.heap.size ≤ b) → wpList P ops Q rest (a.put o.dst v1) w1) : wpList P ops Q (o :: rest) a W := by
  obtain ⟨h1, h2, h3⟩ := bytes_facts (e := e) (ok := ok) hsz hfresh HB hbase
  have hrun : (execOp a.eval o).run P W = .ok (.value (.slice (some ⟨W.heap.size, 0, none⟩) s.size (grownCap W s.size 0 e))) (Lib.bytesWorld W e s) := by
    simp only [execOp, ho, hx, Sem.run_bind, print_bytes src dst e hs hdst he s W]; rfl
  exact Kd.event_run hgd hrun (h _ _ h1 h2 h3 ⟨W.heap.size, by simp [Value.ownBlock], Nat.le_refl _⟩)
theorem const {w0 W : World} (base e : Nat) (hgd : o.guard = none) {N : Tmp} (hd : o.dst = some N) (t : TypeId) (x : Operand) (ho : o.op = .convert t t x) (l : List Int) (C : Array Value) (hC : C = (l.map (Value.int .u8)).toArray) (n : Nat) (hn : l.length = n) (hx : a.eval x = .slice (some ⟨W.heap.size, 0, none⟩) n n)
    (ht : P.underlying t = some (.slice e)) (he : P.underlying e = some (.int .u8)) (hm : n ≤ 9223372036854775807) {ok : Nat → Prop} (hfresh : ok W.heap.size) (HB : Below base w0 W) (hbase : base ≤ W.heap.size)
    (h : ∀ v1 w1, Kd.V (Kd.int .u8) e w1 base ok v1 l → Below base w0 w1 → W.grownBy w1 none → (∃ b, v1.ownBlock = some b ∧ W.heap.size ≤ b) → wpList P ops Q rest (a.put o.dst v1) w1) : wpList P ops Q (o :: rest) a (W.alloc (.cells C e)) := by
  subst hC
  have hrun : (execOp a.eval o).run P (W.alloc (.cells (l.map (Value.int .u8)).toArray e)) = .ok (.value (.slice (some ⟨W.heap.size, 0, none⟩) n n)) (W.alloc (.cells (l.map (Value.int .u8)).toArray e ((l.map (Value.int .u8)).toArray.size, (l.map (Value.int .u8)).toArray.size + 1))) := by
    simp only [execOp, ho, hx, Sem.run_bind, Lib.run_convert_bytes_const W t e _ n n ht he]; rfl
  have hbw : Below W.heap.size W (W.alloc (.cells (l.map (Value.int .u8)).toArray e ((l.map (Value.int .u8)).toArray.size, (l.map (Value.int .u8)).toArray.size + 1))) := (Below.refl _ _).alloc (Nat.le_refl _) _
  have hV : Kd.V (Kd.int .u8) e (W.alloc (.cells (l.map (Value.int .u8)).toArray e ((l.map (Value.int .u8)).toArray.size, (l.map (Value.int .u8)).toArray.size + 1))) base ok (.slice (some ⟨W.heap.size, 0, none⟩) n n) l := by
    refine row_V l hn (Nat.le_refl _) ⟨hn, hm, fun _ => ⟨_, rfl, fun j hj => ?_⟩⟩ (by simp) hfresh
    rw [add_plain, cell_of_row _ _ _ _ _ _ (heap_alloc_new _ _)]
    have hj2 : j < l.length := by omega
    simp [List.getD, hj2]
  exact Kd.event_run hgd hrun (h _ _ hV (HB.trans (hbw.mono hbase)) (grown_of_below hbw none) ⟨W.heap.size, by simp [Value.ownBlock], Nat.le_refl _⟩)
end
end Go.Proofs.YtmbiggcapakjjaaDoor.Conv
