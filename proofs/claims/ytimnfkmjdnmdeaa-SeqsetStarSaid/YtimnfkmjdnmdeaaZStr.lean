import Derived.Test.YtimnfkmjdnmdeaaZOf
import Derived.Shelf.Strings.OnBuilder
import Derived.Shelf.Strings.Search2
namespace Go.Proofs.Ytimnfkmjdnmdeaa.P
open Go.RowKit Go.Shelf Go.Proofs.YtimnfkmjdnmdeaaW.PrintWords Go.Proofs.YtimnfkmjdnmdeaaW.PrintLast Go.Proofs.YtimnfkmjdnmdeaaW.PrintMore
attribute [-simp] Int.tmod_tmod_of_dvd
set_option linter.unusedVariables false
set_option linter.unusedSimpArgs false
def Try.laysJoin_ren : Go.Shelf.Ren := ⟨fun | 156 => 29 | 165 => 36 | 166 => 37 | 169 => 38 | 240 => 41 | 241 => 42 | 276 => 47 | 277 => 48 | n => n, fun | 31 => 47 | 9 => 9 | 3 => 3 | 4 => 4 | 0 => 0 | 20 => 20 | 72 => 66 | 76 => 70 | 70 => 64 | 37 => 40 | 75 => 69 | 127 => 75 | 164 => 78 | 5 => 5 | 80 => 72 | n => n, fun | n => n⟩
theorem Try.laysJoin : Go.Proofs.Lays.n156 Try.prog Try.laysJoin_ren := {
  mixed := by kernel_rfl
  f156 := Try.func29.trans (congrArg some (by kernel_rfl))
  f165 := Try.func36.trans (congrArg some (by kernel_rfl))
  f166 := Try.func37.trans (congrArg some (by kernel_rfl))
  f169 := Try.func38.trans (congrArg some (by kernel_rfl))
  f240 := Try.func41.trans (congrArg some (by kernel_rfl))
  f241 := Try.func42.trans (congrArg some (by kernel_rfl))
  f276 := Try.func47.trans (congrArg some (by kernel_rfl))
  f277 := Try.func48.trans (congrArg some (by kernel_rfl))
  t0 := Try.underlying0
  a0 := Try.isAgg0
  z0 := Try.sizeOf0
  v0 := Try.zeroValue0
  t3 := Try.underlying3
  a3 := Try.isAgg3
  z3 := Try.sizeOf3
  v3 := Try.zeroValue3
  t4 := Try.underlying4
  a4 := Try.isAgg4
  z4 := Try.sizeOf4
  v4 := Try.zeroValue4
  t9 := Try.underlying9
  a9 := Try.isAgg9
  z9 := Try.sizeOf9
  v9 := Try.zeroValue9
  t20 := Try.underlying20
  a20 := Try.isAgg20
  z20 := Try.sizeOf20
  v20 := Try.zeroValue20
  t31 := Try.underlying47
  a31 := Try.isAgg47
  z31 := Try.sizeOf47
  v31 := Try.zeroValue47
  t37 := Try.underlying40
  a37 := Try.isAgg40
  z37 := Try.sizeOf40
  v37 := Try.zeroValue40
  t70 := Try.underlying64
  a70 := Try.isAgg64
  z70 := Try.sizeOf64
  v70 := Try.zeroValue64
  t72 := Try.underlying66
  a72 := Try.isAgg66
  z72 := Try.sizeOf66
  v72 := Try.zeroValue66
  t75 := Try.underlying69
  a75 := Try.isAgg69
  z75 := Try.sizeOf69
  v75 := Try.zeroValue69
  t76 := Try.underlying70
  a76 := Try.isAgg70
  z76 := Try.sizeOf70
  v76 := Try.zeroValue70
  t127 := Try.underlying75
  a127 := Try.isAgg75
  z127 := Try.sizeOf75
  v127 := Try.zeroValue75
  t164 := Try.underlying78
  a164 := Try.isAgg78
  z164 := Try.sizeOf78
  v164 := Try.zeroValue78 }
def Try.laysIndex_ren : Go.Shelf.Ren := ⟨fun | 219 => 39 | 217 => 43 | 225 => 44 | 224 => 45 | 267 => 46 | 266 => 49 | 314 => 50 | n => n, fun | 9 => 9 | 3 => 3 | 4 => 4 | 5 => 5 | 46 => 77 | 146 => 82 | 51 => 81 | n => n, fun | 1 => 0 | n => n⟩
theorem Try.laysIndex : Go.Proofs.Lays.n219 Try.prog Try.laysIndex_ren := {
  mixed := by kernel_rfl
  f217 := Try.func43.trans (congrArg some (by kernel_rfl))
  f219 := Try.func39.trans (congrArg some (by kernel_rfl))
  f224 := Try.func45.trans (congrArg some (by kernel_rfl))
  f225 := Try.func44.trans (congrArg some (by kernel_rfl))
  f266 := Try.func49.trans (congrArg some (by kernel_rfl))
  f267 := Try.func46.trans (congrArg some (by kernel_rfl))
  f314 := Try.func50.trans (congrArg some (by kernel_rfl))
  t3 := Try.underlying3
  a3 := Try.isAgg3
  z3 := Try.sizeOf3
  v3 := Try.zeroValue3
  t4 := Try.underlying4
  a4 := Try.isAgg4
  z4 := Try.sizeOf4
  v4 := Try.zeroValue4
  t5 := Try.underlying5
  a5 := Try.isAgg5
  z5 := Try.sizeOf5
  v5 := Try.zeroValue5
  t9 := Try.underlying9
  a9 := Try.isAgg9
  z9 := Try.sizeOf9
  v9 := Try.zeroValue9
  t46 := Try.underlying77
  a46 := Try.isAgg77
  z46 := Try.sizeOf77
  v46 := Try.zeroValue77
  t51 := Try.underlying81
  a51 := Try.isAgg81
  z51 := Try.sizeOf81
  v51 := Try.zeroValue81
  t146 := Try.underlying82
  a146 := Try.isAgg82
  z146 := Try.sizeOf82
  v146 := Try.zeroValue82
  g1 := by kernel_rfl }
theorem sq_over {w : World} {g : Nat} {u0 u1 : Value} (h0 : w.cell? ⟨g, 0, none⟩ = some u0) (h1 : w.cell? ⟨g, 1, none⟩ = some u1) :
    ∀ (a b c : Value) (n : Nat), ((((w.setCell ⟨g, 0, none⟩ a).setCell ⟨g, 1, none⟩ b).drewN n).setCell ⟨g, 1, none⟩ c).cell? ⟨g, 1, none⟩ = some c := by
  intro a b c n
  have k1 : (w.setCell ⟨g, 0, none⟩ a).cell? ⟨g, 1, none⟩ = some u1 := (World.cell?_setCell_other w ⟨g, 0, none⟩ ⟨g, 1, none⟩ a (fun e => by injection e with _ e; exact absurd e (by decide))).trans h1
  have k3 : (((w.setCell ⟨g, 0, none⟩ a).setCell ⟨g, 1, none⟩ b).drewN n).cell? ⟨g, 1, none⟩ = some b := by
    have := World.cell?_setCell_same _ _ b k1
    first | exact this | simpa using this
  exact World.cell?_setCell_same _ _ c k3
theorem sq_Index (s : ByteArray) (c : UInt8) (w : World) : Calls Try.prog 39 #[.string s, .string ⟨#[c]⟩] w fun e w' => e = .returned (.int .i64 (Lib.indexByte s.data.toList c)) ∧ w' = w :=
  Any.stringslite_Index_one Try.laysIndex s c w
def sq_cut (s : ByteArray) (c : UInt8) : ByteArray × ByteArray × Bool := if 0 ≤ Lib.indexByte s.data.toList c then (s.extract 0 (Lib.indexByte s.data.toList c).toNat, s.extract ((Lib.indexByte s.data.toList c).toNat + 1) s.size, true) else (s, ⟨#[]⟩, false)
theorem sq_index_lt (c : UInt8) : ∀ l : List UInt8, Lib.indexByte l c < l.length
  | [] => by simp [Lib.indexByte]
  | b :: l => by
    have ih := sq_index_lt c l
    have g := Lib.indexByte_ge l c
    unfold Lib.indexByte
    simp only [List.length_cons]
    split
    · omega
    · split <;> omega
set_option maxHeartbeats 2000000 in
theorem sq_Cut30 (s : ByteArray) (c : UInt8) (hs : s.size ≤ 1000000000) (w : World) : Calls Try.prog 30 #[.string s, .string ⟨#[c]⟩] w fun e w' => e = .returned (.tuple #[.string (sq_cut s c).1, .string (sq_cut s c).2.1, .bool (sq_cut s c).2.2]) ∧ Below w.heap.size w w' := by
  have hlt := sq_index_lt c s.data.toList
  by_cases h : 0 ≤ Lib.indexByte s.data.toList c
  · have hr : sq_cut s c = (s.extract 0 (Lib.indexByte s.data.toList c).toNat, s.extract ((Lib.indexByte s.data.toList c).toNat + 1) s.size, true) := if_pos h
    rw [hr]
    clear hr
    have hI := fun w => sq_Index s c w
    have hle : Lib.indexByte s.data.toList c < (s.size : Int) := by simpa using hlt
    clear hlt
    generalize Lib.indexByte s.data.toList c = i at *
    have hb : decide (i ≥ 0) = true := decide_eq_true h
    have HI := Aside0.mk hI
    clear hI
    obtain ⟨k, rfl⟩ := Int.eq_ofNat_of_zero_le h
    have c1 : (0 : Int) ≤ (k : Int) := by omega
    have c2 : (k : Int) ≤ (s.size : Int) := by omega
    have c3 : (0 : Int) ≤ (k : Int) + 1 := by omega
    have c4 : (k : Int) + 1 ≤ (s.size : Int) := by omega
    go_enter Try.func30, Try.ntmps30
    go_wp2_with (go_at_call 39; refine (HI.out _).mono ?_; rintro e w2 ⟨rfl, rfl⟩)
    go_region_o
    go_wp2
    go_ret3
    exact ⟨rfl, below_drew (Below.refl _ _)⟩
  · have hr : sq_cut s c = (s, ⟨#[]⟩, false) := if_neg h
    rw [hr]
    have hb : decide (Lib.indexByte s.data.toList c ≥ 0) = false := decide_eq_false h
    have HI := Aside0.mk (fun w => sq_Index s c w)
    clear hlt hr h
    generalize Lib.indexByte s.data.toList c = i at *
    go_enter Try.func30, Try.ntmps30
    go_wp2_with (go_at_call 39; refine (HI.out _).mono ?_; rintro e w2 ⟨rfl, rfl⟩)
    go_ret3
    exact ⟨rfl, Below.refl _ _⟩
set_option maxHeartbeats 1000000 in
theorem sq_Cut (s : ByteArray) (c : UInt8) (hs : s.size ≤ 1000000000) (w : World) : Calls Try.prog 18 #[.string s, .string ⟨#[c]⟩] w fun e w' => e = .returned (.tuple #[.string (sq_cut s c).1, .string (sq_cut s c).2.1, .bool (sq_cut s c).2.2]) ∧ Below w.heap.size w w' := by
  go_enter Try.func18, Try.ntmps18
  go_wp2_with (go_at_call 30; refine (sq_Cut30 s c hs _).mono ?_; rintro e w2 ⟨rfl, hB⟩; have HB := Aside0.mk hB; clear hB)
  go_ret3
  exact ⟨rfl, HB.out⟩
theorem sq_extra : Builder.Extra Try.prog Try.laysJoin_ren where
  sizeBuilder := by kernel_rfl
  liesBuilder := by kernel_rfl
  t5 := Try.laysIndex.t5
  a5 := Try.laysIndex.a5
  z5 := Try.laysIndex.z5
  v5 := Try.laysIndex.v5
  infoByte := by kernel_rfl
  cellsByte := by kernel_rfl
  sizeByte := by kernel_rfl
  neB5 := by decide
def sq_join (l : List ByteArray) (sep : ByteArray) : ByteArray := ⟨(Lib.join (l.map (·.data.toList)) sep.data.toList).toArray⟩
theorem sq_Join (A : Option Addr) (c : Nat) (l : List ByteArray) (sep : ByteArray) (w : World) (hr : Kd.C Kd.string w A l.length l) (hc : l.length ≤ c) (hl : l.length ≤ 140737488355328) (hs : (Lib.join (l.map (·.data.toList)) sep.data.toList).length ≤ 140737488355328) :
    Calls Try.prog 29 #[.slice A l.length c, .string sep] w fun e w' => e = .returned (.string (sq_join l sep)) ∧ Below w.heap.size w w' := by
  by_cases h0 : l = []
  · subst h0
    exact (Any.strings_Join_none Try.laysJoin sq_extra A c sep w).mono fun e w' ⟨he, hw⟩ => ⟨he, hw ▸ Below.refl _ _⟩
  · have hp : 0 < l.length := List.length_pos_iff.2 h0
    obtain ⟨ad, rfl, hx⟩ := Kd.at_string hr 0 (by omega) (by omega)
    have hsp : ad = ⟨ad.block, ad.off, none⟩ := by
      have : w.cell? ad = some (.string (rdOf ByteArray.empty l 0)) := by simpa [Addr.add] using hx
      cases ad with
      | mk b o s =>
        cases s with
        | none => rfl
        | some s =>
          simp only [World.cell?] at this
          split at this <;> simp at this
    have hb : ad.block < w.heap.size := by
      have : w.cell? ad = some (.string (rdOf ByteArray.empty l 0)) := by simpa [Addr.add] using hx
      exact World.block_lt_of_cell? w _ this
    have hcells : ∀ (j : Nat) x, l[j]? = some x → w.cell? ⟨ad.block, ad.off + j, none⟩ = some (.string x) := by
      intro j x hj
      have hjl := (List.getElem?_eq_some_iff.1 hj).1
      obtain ⟨ad2, e, hy⟩ := Kd.at_string hr (j : Int) (by omega) (by omega)
      cases e
      have e2 : rdOf ByteArray.empty l (j : Int) = x := by
        show l.getD (j : Int).toNat ByteArray.empty = x
        simp [List.getD_eq_getElem?_getD, hj]
      rw [e2, Int.toNat_natCast] at hy
      rw [hsp] at hy
      unfold Addr.add at hy
      split at hy
      · rename_i h; subst h; exact hy
      · exact hy
    have := Any.strings_Join Try.laysJoin sq_extra ad.block ad.off c l sep w hcells hb hl hc hs
    rw [← hsp] at this
    exact this
end Go.Proofs.Ytimnfkmjdnmdeaa.P
