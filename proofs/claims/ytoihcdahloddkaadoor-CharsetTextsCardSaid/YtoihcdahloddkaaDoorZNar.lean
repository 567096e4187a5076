import Derived.Test.YtoihcdahloddkaaDoorPxA
import Derived.Test.YtoihcdahloddkaaDoorWTab
import Derived.MapKept
import Derived.Laws.EntriesVeiled
namespace Go.Proofs.YtoihcdahloddkaaDoor.P
open Go.RowKit Go.Proofs.YtoihcdahloddkaaDoorW.PrintWords Go.Proofs.YtoihcdahloddkaaDoorW.PrintLast Go.Proofs.YtoihcdahloddkaaDoorW.PrintMore
attribute [-simp] Int.tmod_tmod_of_dvd
set_option linter.unusedVariables false
set_option linter.unusedSimpArgs false
def cs_fn (k : Nat) : Value := .func (.func k) #[] #[]
/-- the value of a charset's way: 1 of 128 characters, 2 of 256, 3 UTF-8; 0: none -/
def cs_cells (k : Nat) : Array Value := if k = 1 then #[.int .i32 128, .func (.func 20) #[] #[], .func (.func 21) #[] #[]] else if k = 2 then #[.int .i32 256, .func (.func 20) #[] #[], .func (.func 21) #[] #[]] else if k = 3 then #[.int .i32 0, .func (.func 22) #[] #[], .func (.func 23) #[] #[]] else #[.int .i32 0, .nilFunc, .nilFunc]
def cs_way (k : Nat) : Value := .agg (cs_cells k)
set_option maxHeartbeats 2000000 in
theorem cs_narrow (n : Int) (w : World) : Calls Tryd.prog 19 #[.int .i32 n] w fun e w' => e = .returned (.agg #[.int .i32 n, .func (.func 20) #[] #[], .func (.func 21) #[] #[]]) ∧ Below w.heap.size w w' := by
  go_enter Tryd.func19, Tryd.ntmps19
  go_wp2
  exact bodyPost_ret (v := .agg #[.int .i32 n, .func (.func 20) #[] #[], .func (.func 21) #[] #[]]) (by simp [results, Tryd.results19, go_sem]) rfl ⟨rfl, (Below.refl _ _).alloc (Nat.le_refl _) _⟩
end Go.Proofs.YtoihcdahloddkaaDoor.P
