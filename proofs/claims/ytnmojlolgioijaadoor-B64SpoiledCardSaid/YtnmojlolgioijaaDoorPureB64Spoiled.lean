/- The law B64Spoiled holds of every row of bytes, every place, every other byte: spoiled letters are told as the document says, and what is taken is what is encoded. No condition. -/
import Derived.Test.YtnmojlolgioijaaDoorRDec
import Derived.Test.YtnmojlolgioijaaDoorPx8
set_option linter.unusedVariables false
namespace Go.Proofs.YtnmojlolgioijaaDoor.Pure
open Go.RowKit Go.Proofs.YtnmojlolgioijaaDoor.P Go.Proofs.YtnmojlolgioijaaDoorW.PrintWords Go.Proofs.YtnmojlolgioijaaDoorW.PrintLast Go.Proofs.YtnmojlolgioijaaDoor.Aids Go.Proofs.YtnmojlolgioijaaDoor.B64

theorem spoiled_end (f : List Int) (hf : byte f) (hl : f.length ≤ 1000) : Ev (fun k => (b64_Decode.f k f).bind fun bt220 => ((letterboxref02_Decode.f k (strOfNums f)).bind fun bt224 => (if (bt220.2 == bt224.2) = true then (if (strOfNums bt220.1).toList = bt224.1.toList then (if bt220.2 = true then ((b64_Encode.f bt220.1 0).bind fun t226 => ((b64_Bare.f k f).bind fun t229 => (some ((strOfNums t226).toList == (strOfNums t229).toList)))) else (some true)) else (some false)) else (some false)))) true := by
  refine bnd (dec_eq f hf (by omega)) (bnd (rdec_eq f hf (by omega)) ?_)
  cases hd : dec f with
  | none => exact yes rfl (yes rfl (no (by decide) (fin rfl)))
  | some o =>
    have he := dec_E hf hd
    refine yes rfl (yes rfl (yes rfl ?_))
    show Ev (fun k => (b64_Encode.f o 0).bind _) true
    have hol2 : 4 * o.length ≤ 3 * f.length := by
      have h1 := E_len o
      have h2 := bare_len f
      rw [he.1] at h1
      omega
    rw [enc_eq o 0 he.2 (by omega) (by decide)]
    refine bs (bnd (bare_eq f (by omega)) (fin ?_))
    rw [show enc o 0 = E o from rfl, he.1]; simp
theorem B64Spoiled : letterboxlaw02_B64Spoiled.Pure := by
  intro l p x cut _ _ h3 h4 h5
  have hb : byte l := byte_wf h3
  have hp := wf_u16 h4
  have hx := wf_u8 h5
  refine Ev.rounds (g := fun k => letterboxlaw02_B64Spoiled.f k l p x cut) ?_
  show Ev (fun k => (letterboxlaw02_awake.f).bind _) _
  refine bs ?_
  refine yes rfl ?_
  by_cases h0 : (l.length : Int) = 0
  · refine yes h0 (st (fun k => by rw [letterboxlaw02_B64Spoiled.j0]) (yes rfl (fin rfl)))
  refine no h0 (st (fun k => by rw [letterboxlaw02_B64Spoiled.j0]) ?_)
  by_cases h : (l.length : Int) > 200
  · exact yes (decide_eq_true h) (fin rfl)
  refine no (by rw [decide_eq_false h]; decide) ?_
  rw [enc_eq l 0 hb (by omega) (by decide), show enc l 0 = E l from rfl]
  have hEl := E_len l
  have hEb := E_byte hb
  refine bs (no (by omega) ?_)
  generalize E l = e at *
  have ek : Int.tmod (wrap64 p) (e.length : Int) = ((p.toNat % e.length : Nat) : Int) := by
    rw [w64 (by omega) (by omega), show p = ((p.toNat : Nat) : Int) by omega]; rfl
  have hk : p.toNat % e.length < e.length := Nat.mod_lt _ (by omega)
  rw [ek]
  generalize p.toNat % e.length = k at *
  refine yes (by omega) (yes (by omega) (bs (yes ?_ (bs ?_))))
  · simp; omega
  rw [Int.toNat_natCast, List.nil_append]
  have fin_ : ∀ y : List Int, byte y → y.length ≤ 300 → Ev (fun r => letterboxlaw02_B64Spoiled.j1 r e (k : Int) y) true := by
    intro y hy hyl
    refine st (fun k => by rw [letterboxlaw02_B64Spoiled.j1]) ?_
    have e1 : wrap64 ((k : Int) + 1) = ((k + 1 : Nat) : Int) := by rw [w64 (by omega) (by omega)]; omega
    rw [e1, Int.toNat_natCast]
    refine yes (by omega) (yes (by omega) (bs (yes ?_ (bs ?_))))
    · simp; omega
    exact spoiled_end _ (byte_append hy (byte_drop hEb _)) (by simp; omega)
  by_cases hc : cut = true
  · exact yes hc (fin_ _ (byte_take hEb _) (by simp; omega))
  · exact no hc (yes (by simp; omega) (fin_ _ (byte_append (byte_take hEb _) (byte_one hx.1 hx.2)) (by simp; omega)))
end Go.Proofs.YtnmojlolgioijaaDoor.Pure
