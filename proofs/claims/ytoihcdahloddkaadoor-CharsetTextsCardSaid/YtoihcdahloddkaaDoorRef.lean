/- What the document's functions tell, in plain words. -/
import Derived.Test.YtoihcdahloddkaaDoorPx4
import Derived.Test.YtoihcdahloddkaaDoorFold
import Derived.Test.YtoihcdahloddkaaDoorCs
set_option linter.unusedVariables false
set_option linter.unusedSimpArgs false
namespace Go.Proofs.YtoihcdahloddkaaDoor.Ref
open Go.RowKit Go.Lib Go.Proofs.YtoihcdahloddkaaDoor.P Go.Proofs.YtoihcdahloddkaaDoor.Utf Go.Proofs.YtoihcdahloddkaaDoor.Cs Go.Proofs.YtoihcdahloddkaaDoor.Chars Go.Proofs.YtoihcdahloddkaaDoorW.PrintWords Go.Proofs.YtoihcdahloddkaaDoorW.PrintLast Go.Proofs.YtoihcdahloddkaaDoor.Aids
theorem fold_is (a : ByteArray) : cs_fold a = strOfNums (lows (bytesOf a)) := by
  unfold cs_fold lows
  rw [List.map_congr_left fun c hc => low_is (byte_bytes a c hc)]
theorem lit_iff (s : ByteArray) (l : List UInt8) : s.toList = l ↔ s = ⟨l.toArray⟩ := by
  rw [ByteArray.toList_eq]
  constructor
  · intro h
    apply ByteArray.ext
    apply Array.ext'
    rw [h]
  · intro h; rw [h]
theorem rkind (a : ByteArray) (ha : a.size ≤ 1000000) : Ev (fun k => letterboxref08_kind.f k a) ((cs_kind (cs_fold a) : Nat) : Int) := by
  have hf := rfolded (bytesOf a) (byte_bytes a) (by rw [size_bytes]; exact ha)
  rw [str_bytes] at hf
  unfold letterboxref08_kind.f
  refine bnd hf ?_
  rw [← fold_is]
  generalize cs_fold a = F
  have e3 := lit_iff F [117, 115, 45, 97, 115, 99, 105, 105]
  have e6 := lit_iff F [97, 115, 99, 105, 105]
  have e9 := lit_iff F [105, 115, 111, 45, 56, 56, 53, 57, 45, 49]
  have e12 := lit_iff F [108, 97, 116, 105, 110, 49]
  have e14 := lit_iff F [117, 116, 102, 45, 56]
  have e16 := lit_iff F [117, 116, 102, 56]
  unfold cs_kind
  by_cases h3 : F = cs_k3
  · rw [if_pos h3]
    refine yes (e3.2 h3) ?_
    refine st (fun k => by rw [letterboxref08_kind.j0]) ?_
    exact yes rfl (fin rfl)
  rw [if_neg h3]
  refine no (fun h => h3 (e3.1 h)) (st (fun k => by rw [letterboxref08_kind.j0]) ?_)
  by_cases h6 : F = cs_k6
  · rw [if_pos h6]
    exact yes (beq_iff_eq.2 (e6.2 h6)) (fin rfl)
  rw [if_neg h6]
  refine no (fun h => h6 (e6.1 (beq_iff_eq.1 h))) ?_
  by_cases h9 : F = cs_k9
  · rw [if_pos h9]
    refine yes (e9.2 h9) ?_
    refine st (fun k => by rw [letterboxref08_kind.j1]) ?_
    exact yes rfl (fin rfl)
  rw [if_neg h9]
  refine no (fun h => h9 (e9.1 h)) (st (fun k => by rw [letterboxref08_kind.j1]) ?_)
  by_cases h12 : F = cs_k12
  · rw [if_pos h12]
    exact yes (beq_iff_eq.2 (e12.2 h12)) (fin rfl)
  rw [if_neg h12]
  refine no (fun h => h12 (e12.1 (beq_iff_eq.1 h))) ?_
  by_cases h14 : F = cs_k14
  · rw [if_pos h14]; exact yes (e14.2 h14) (fin rfl)
  rw [if_neg h14]
  refine no (fun h => h14 (e14.1 h)) ?_
  by_cases h16 : F = cs_k16
  · rw [if_pos h16]; exact yes (e16.2 h16) (fin rfl)
  rw [if_neg h16]
  exact no (fun h => h16 (e16.1 h)) (fin rfl)
theorem fl {p : Prop} (h : ¬ p) : (false = true ↔ p) := ⟨fun e => (by cases e), fun q => absurd q h⟩
/-- a byte at a place -/
def at8 (s : ByteArray) (i : Nat) : Nat := (s.data.toList.getD i 0).toNat
theorem at8_lt (s : ByteArray) (i : Nat) : at8 s i < 256 := (s.data.toList.getD i 0).toNat_lt
theorem bt_at8 (s : ByteArray) (i : Nat) : bt s (i : Int) = ((at8 s i : Nat) : Int) := by
  rw [bt_bytes]
  unfold rd at8 bytesOf
  rw [Int.toNat_natCast, List.getD_eq_getElem?_getD, List.getD_eq_getElem?_getD, List.getElem?_map]
  cases s.data.toList[i]? <;> rfl
theorem rtail (s : ByteArray) (i : Nat) : letterboxref08_tail.f s (i : Int) = some (decide (i < s.size ∧ at8 s i / 64 = 2)) := by
  unfold letterboxref08_tail.f
  rw [bt_at8]
  have := at8_lt s i
  generalize at8 s i = x at *
  by_cases h1 : i < s.size
  · rw [if_pos (by omega), if_pos (by omega)]
    by_cases h2 : 128 ≤ x
    · rw [if_pos (by omega)]
      by_cases h3 : x < 192
      · rw [decide_eq_true (show ((x : Nat) : Int) < 192 by omega), decide_eq_true (by omega)]
      · rw [decide_eq_false (show ¬ ((x : Nat) : Int) < 192 by omega), decide_eq_false (by omega)]
    · rw [if_neg (by omega), decide_eq_false (by omega)]
  · rw [if_neg (by omega), decide_eq_false (by omega)]
/-- the character at a place, as the document tells it -/
def rch (d : Nat × Nat) : Int × Int := if d = (65533, 1) then (0, 0) else ((d.1 : Int), (d.2 : Int))
theorem dN (s : ByteArray) (i x0 x1 x2 x3 : Nat) (hi : i < s.size) (hs : s.size ≤ 1000000) (b0 : x0 < 256) (b1 : x1 < 256) (b2 : x2 < 256) (b3 : x3 < 256) (hA : ¬ x0 < 128) : (¬ (240 ≤ x0 ∧ x0 < 245 ∧ (i + 1 < s.size ∧ x1 / 64 = 2) ∧ (i + 2 < s.size ∧ x2 / 64 = 2) ∧ (i + 3 < s.size ∧ x3 / 64 = 2))) → ¬ (224 ≤ x0 ∧ x0 < 240 ∧ (i + 1 < s.size ∧ x1 / 64 = 2) ∧ (i + 2 < s.size ∧ x2 / 64 = 2)) → ¬ (194 ≤ x0 ∧ x0 < 224 ∧ (i + 1 < s.size ∧ x1 / 64 = 2)) → decodeN (s.size - i) x0 x1 x2 x3 = (65533, 1) := by
  intro h1 h2 h3
  clear hs
  unfold decodeN
  rw [if_neg hA]
  by_cases q1 : x0 / 32 = 6 ∧ 1 < s.size - i ∧ x1 / 64 = 2
  · rw [if_pos q1, if_neg (by omega)]
  rw [if_neg q1]
  rw [if_neg (by omega)]
  by_cases q3 : x0 / 8 = 30 ∧ (1 < s.size - i ∧ x1 / 64 = 2) ∧ (2 < s.size - i ∧ x2 / 64 = 2) ∧ (3 < s.size - i ∧ x3 / 64 = 2)
  · rw [if_pos q3, if_neg (by omega)]
  rw [if_neg q3]
theorem w64 (x : Int) (h : -1000000000 ≤ x ∧ x ≤ 1000000000) : wrap64 x = x := by unfold wrap64; omega
theorem v4_ (x0 x1 x2 x3 : Nat) (h0 : 240 ≤ x0 ∧ x0 < 245) (h1 : x1 / 64 = 2) (h2 : x2 / 64 = 2) (h3 : x3 / 64 = 2) : wrap64 (wrap64 (wrap64 (wrap64 (wrap64 (wrap64 ((x0 : Int) - 240) * 262144) + wrap64 (wrap64 (wrap64 (x1 : Int) - 128) * 4096)) + wrap64 (wrap64 (wrap64 (x2 : Int) - 128) * 64)) + wrap64 (x3 : Int)) - 128) = ((x0 % 8 * 262144 + x1 % 64 * 4096 + x2 % 64 * 64 + x3 % 64 : Nat) : Int) := by
  rw [w64 ((x0 : Int) - 240) ⟨by omega, by omega⟩, w64 (((x0 : Int) - 240) * 262144) ⟨by omega, by omega⟩]
  rw [w64 (x1 : Int) ⟨by omega, by omega⟩, w64 ((x1 : Int) - 128) ⟨by omega, by omega⟩, w64 (((x1 : Int) - 128) * 4096) ⟨by omega, by omega⟩]
  rw [w64 (x2 : Int) ⟨by omega, by omega⟩, w64 ((x2 : Int) - 128) ⟨by omega, by omega⟩, w64 (((x2 : Int) - 128) * 64) ⟨by omega, by omega⟩]
  rw [w64 (x3 : Int) ⟨by omega, by omega⟩]
  rw [w64 (((x0 : Int) - 240) * 262144 + ((x1 : Int) - 128) * 4096) ⟨by omega, by omega⟩]
  rw [w64 (((x0 : Int) - 240) * 262144 + ((x1 : Int) - 128) * 4096 + ((x2 : Int) - 128) * 64) ⟨by omega, by omega⟩]
  rw [w64 (((x0 : Int) - 240) * 262144 + ((x1 : Int) - 128) * 4096 + ((x2 : Int) - 128) * 64 + (x3 : Int)) ⟨by omega, by omega⟩]
  rw [w64 _ ⟨by omega, by omega⟩]
  omega
theorem v3_ (x0 x1 x2 : Nat) (h0 : 224 ≤ x0 ∧ x0 < 240) (h1 : x1 / 64 = 2) (h2 : x2 / 64 = 2) : wrap64 (wrap64 (wrap64 (wrap64 (wrap64 ((x0 : Int) - 224) * 4096) + wrap64 (wrap64 (wrap64 (x1 : Int) - 128) * 64)) + wrap64 (x2 : Int)) - 128) = ((x0 % 16 * 4096 + x1 % 64 * 64 + x2 % 64 : Nat) : Int) := by
  rw [w64 ((x0 : Int) - 224) ⟨by omega, by omega⟩, w64 (((x0 : Int) - 224) * 4096) ⟨by omega, by omega⟩]
  rw [w64 (x1 : Int) ⟨by omega, by omega⟩, w64 ((x1 : Int) - 128) ⟨by omega, by omega⟩, w64 (((x1 : Int) - 128) * 64) ⟨by omega, by omega⟩]
  rw [w64 (x2 : Int) ⟨by omega, by omega⟩]
  rw [w64 (((x0 : Int) - 224) * 4096 + ((x1 : Int) - 128) * 64) ⟨by omega, by omega⟩]
  rw [w64 (((x0 : Int) - 224) * 4096 + ((x1 : Int) - 128) * 64 + (x2 : Int)) ⟨by omega, by omega⟩]
  rw [w64 _ ⟨by omega, by omega⟩]
  omega
theorem v2_ (x0 x1 : Nat) (h0 : 194 ≤ x0 ∧ x0 < 224) (h1 : x1 / 64 = 2) : wrap64 (wrap64 (wrap64 (wrap64 ((x0 : Int) - 192) * 64) + wrap64 (x1 : Int)) - 128) = ((x0 % 32 * 64 + x1 % 64 : Nat) : Int) := by
  rw [w64 ((x0 : Int) - 192) ⟨by omega, by omega⟩, w64 (((x0 : Int) - 192) * 64) ⟨by omega, by omega⟩]
  rw [w64 (x1 : Int) ⟨by omega, by omega⟩]
  rw [w64 (((x0 : Int) - 192) * 64 + (x1 : Int)) ⟨by omega, by omega⟩]
  rw [w64 _ ⟨by omega, by omega⟩]
  omega
set_option maxHeartbeats 1600000 in
theorem cj2 (s : ByteArray) (i x0 x1 x2 x3 : Nat) (hi : i < s.size) (hs : s.size ≤ 1000000) (b0 : x0 < 256) (b1 : x1 < 256) (b2 : x2 < 256) (b3 : x3 < 256) (hA : ¬ x0 < 128) (w1 : wrap64 ((i : Int) + 1) = ((i + 1 : Nat) : Int)) (w2 : wrap64 ((i : Int) + 2) = ((i + 2 : Nat) : Int)) (w3 : wrap64 ((i : Int) + 3) = ((i + 3 : Nat) : Int)) (t1 : letterboxref08_tail.f s ((i + 1 : Nat) : Int) = some (decide (i + 1 < s.size ∧ x1 / 64 = 2))) (t2 : letterboxref08_tail.f s ((i + 2 : Nat) : Int) = some (decide (i + 2 < s.size ∧ x2 / 64 = 2))) (t3 : letterboxref08_tail.f s ((i + 3 : Nat) : Int) = some (decide (i + 3 < s.size ∧ x3 / 64 = 2))) (c1 : bt s ((i + 1 : Nat) : Int) = (x1 : Int)) (c2 : bt s ((i + 2 : Nat) : Int) = (x2 : Int)) (c3 : bt s ((i + 3 : Nat) : Int) = (x3 : Int)) : ∀ b : Bool, (b = true ↔ (240 ≤ x0 ∧ x0 < 245 ∧ (i + 1 < s.size ∧ x1 / 64 = 2) ∧ (i + 2 < s.size ∧ x2 / 64 = 2) ∧ (i + 3 < s.size ∧ x3 / 64 = 2))) → ¬ (224 ≤ x0 ∧ x0 < 240 ∧ (i + 1 < s.size ∧ x1 / 64 = 2) ∧ (i + 2 < s.size ∧ x2 / 64 = 2)) → ¬ (194 ≤ x0 ∧ x0 < 224 ∧ (i + 1 < s.size ∧ x1 / 64 = 2)) → Ev (fun k => letterboxref08_Char.j2 k s (i : Int) (x0 : Int) b) (rch (decodeN (s.size - i) x0 x1 x2 x3)) := by
  have hD := dN s i x0 x1 x2 x3 hi hs b0 b1 b2 b3 hA
  intro b hb h2 h3
  refine st (fun k => by rw [letterboxref08_Char.j2]) ?_
  cases b with
  | true =>
    have h := hb.1 rfl
    rw [w1, w2, w3, c1, c2, c3]
    clear w1 w2 w3 t1 t2 t3 c1 c2 c3
    have v : wrap64 (wrap64 (wrap64 (wrap64 (wrap64 (wrap64 ((x0 : Int) - 240) * 262144) + wrap64 (wrap64 (wrap64 (x1 : Int) - 128) * 4096)) + wrap64 (wrap64 (wrap64 (x2 : Int) - 128) * 64)) + wrap64 (x3 : Int)) - 128) = ((x0 % 8 * 262144 + x1 % 64 * 4096 + x2 % 64 * 64 + x3 % 64 : Nat) : Int) := v4_ x0 x1 x2 x3 ⟨h.1, h.2.1⟩ h.2.2.1.2 h.2.2.2.1.2 h.2.2.2.2.2
    rw [v]
    refine yes rfl (yes (by omega) (yes (by omega) (yes (by omega) (yes (by omega) (yes (by omega) (yes (by omega) ?_))))))
    have hdec : decodeN (s.size - i) x0 x1 x2 x3 = if 65536 ≤ x0 % 8 * 262144 + x1 % 64 * 4096 + x2 % 64 * 64 + x3 % 64 ∧ x0 % 8 * 262144 + x1 % 64 * 4096 + x2 % 64 * 64 + x3 % 64 ≤ 1114111 then (x0 % 8 * 262144 + x1 % 64 * 4096 + x2 % 64 * 64 + x3 % 64, 4) else (65533, 1) := by
      unfold decodeN
      rw [if_neg hA, if_neg (by omega), if_neg (by omega), if_pos (by omega)]
      by_cases q : 65536 ≤ x0 % 8 * 262144 + x1 % 64 * 4096 + x2 % 64 * 64 + x3 % 64 ∧ x0 % 8 * 262144 + x1 % 64 * 4096 + x2 % 64 * 64 + x3 % 64 ≤ 1114111
      · rw [if_pos q, if_pos (by omega)]
      · rw [if_neg q, if_neg (by omega)]
    rw [hdec]
    generalize x0 % 8 * 262144 + x1 % 64 * 4096 + x2 % 64 * 64 + x3 % 64 = v4
    by_cases q1 : 65536 ≤ v4
    · refine yes (by omega) ?_
      by_cases q2 : v4 ≤ 1114111
      · refine yes (by omega) (fin ?_)
        rw [if_pos ⟨q1, q2⟩]; unfold rch; rw [if_neg (by simp)]; rfl
      · refine no (by omega) (fin ?_)
        rw [if_neg (by omega)]; rfl
    · refine no (by omega) (fin ?_)
      rw [if_neg (by omega)]; rfl
  | false =>
    refine no (by decide) (fin ?_)
    rw [hD (fun h => by have := hb.2 h; cases this) h2 h3]; rfl
set_option maxHeartbeats 1600000 in
theorem cj1 (s : ByteArray) (i x0 x1 x2 x3 : Nat) (hi : i < s.size) (hs : s.size ≤ 1000000) (b0 : x0 < 256) (b1 : x1 < 256) (b2 : x2 < 256) (b3 : x3 < 256) (hA : ¬ x0 < 128) (w1 : wrap64 ((i : Int) + 1) = ((i + 1 : Nat) : Int)) (w2 : wrap64 ((i : Int) + 2) = ((i + 2 : Nat) : Int)) (w3 : wrap64 ((i : Int) + 3) = ((i + 3 : Nat) : Int)) (t1 : letterboxref08_tail.f s ((i + 1 : Nat) : Int) = some (decide (i + 1 < s.size ∧ x1 / 64 = 2))) (t2 : letterboxref08_tail.f s ((i + 2 : Nat) : Int) = some (decide (i + 2 < s.size ∧ x2 / 64 = 2))) (t3 : letterboxref08_tail.f s ((i + 3 : Nat) : Int) = some (decide (i + 3 < s.size ∧ x3 / 64 = 2))) (c1 : bt s ((i + 1 : Nat) : Int) = (x1 : Int)) (c2 : bt s ((i + 2 : Nat) : Int) = (x2 : Int)) (c3 : bt s ((i + 3 : Nat) : Int) = (x3 : Int)) : ∀ b : Bool, (b = true ↔ (224 ≤ x0 ∧ x0 < 240 ∧ (i + 1 < s.size ∧ x1 / 64 = 2) ∧ (i + 2 < s.size ∧ x2 / 64 = 2))) → ¬ (194 ≤ x0 ∧ x0 < 224 ∧ (i + 1 < s.size ∧ x1 / 64 = 2)) → Ev (fun k => letterboxref08_Char.j1 k s (i : Int) (x0 : Int) b) (rch (decodeN (s.size - i) x0 x1 x2 x3)) := by
  have hj2 := cj2 s i x0 x1 x2 x3 hi hs b0 b1 b2 b3 hA w1 w2 w3 t1 t2 t3 c1 c2 c3
  intro b hb h3
  refine st (fun k => by rw [letterboxref08_Char.j1]) ?_
  rw [w1, w2, w3, c1, c2, t1, t2, t3]
  clear w1 w2 w3 t1 t2 t3 c1 c2 c3
  cases b with
  | true =>
    have h := hb.1 rfl
    have v : wrap64 (wrap64 (wrap64 (wrap64 (wrap64 ((x0 : Int) - 224) * 4096) + wrap64 (wrap64 (wrap64 (x1 : Int) - 128) * 64)) + wrap64 (x2 : Int)) - 128) = ((x0 % 16 * 4096 + x1 % 64 * 64 + x2 % 64 : Nat) : Int) := v3_ x0 x1 x2 ⟨h.1, h.2.1⟩ h.2.2.1.2 h.2.2.2.2
    rw [v]
    refine yes rfl (yes (by omega) (yes (by omega) (yes (by omega) (yes (by omega) ?_))))
    have hdec : decodeN (s.size - i) x0 x1 x2 x3 = if 2048 ≤ x0 % 16 * 4096 + x1 % 64 * 64 + x2 % 64 ∧ (x0 % 16 * 4096 + x1 % 64 * 64 + x2 % 64 < 55296 ∨ 57344 ≤ x0 % 16 * 4096 + x1 % 64 * 64 + x2 % 64) then (x0 % 16 * 4096 + x1 % 64 * 64 + x2 % 64, 3) else (65533, 1) := by
      unfold decodeN
      rw [if_neg hA, if_neg (by omega), if_pos (by omega)]
      by_cases q : 2048 ≤ x0 % 16 * 4096 + x1 % 64 * 64 + x2 % 64 ∧ (x0 % 16 * 4096 + x1 % 64 * 64 + x2 % 64 < 55296 ∨ 57344 ≤ x0 % 16 * 4096 + x1 % 64 * 64 + x2 % 64)
      · rw [if_pos q, if_pos (by omega)]
      · rw [if_neg q, if_neg (by omega)]
    rw [hdec]
    generalize x0 % 16 * 4096 + x1 % 64 * 64 + x2 % 64 = v3
    by_cases q1 : 2048 ≤ v3
    · refine yes (by omega) ?_
      by_cases q2 : v3 < 55296
      · refine yes (by omega) (fin ?_)
        rw [if_pos ⟨q1, .inl q2⟩]; unfold rch; rw [if_neg (by simp)]; rfl
      · refine no (by omega) ?_
        by_cases q3 : 57343 < v3
        · refine yes (by omega) (fin ?_)
          rw [if_pos ⟨q1, .inr (by omega)⟩]; unfold rch; rw [if_neg (by simp)]; rfl
        · refine no (by omega) (fin ?_)
          rw [if_neg (by omega)]; rfl
    · refine no (by omega) (fin ?_)
      rw [if_neg (by omega)]; rfl
  | false =>
    have h2 : ¬ (224 ≤ x0 ∧ x0 < 240 ∧ (i + 1 < s.size ∧ x1 / 64 = 2) ∧ (i + 2 < s.size ∧ x2 / 64 = 2)) := fun h => by have := hb.2 h; cases this
    refine no (by decide) ?_
    by_cases q1 : 240 ≤ x0
    · refine yes (by omega) ?_
      by_cases q2 : x0 < 245
      · refine yes (by omega) (bs ?_)
        by_cases q3 : i + 1 < s.size ∧ x1 / 64 = 2
        · refine yes (decide_eq_true q3) (bs ?_)
          by_cases q4 : i + 2 < s.size ∧ x2 / 64 = 2
          · refine yes (decide_eq_true q4) (bs ?_)
            exact hj2 _ (by rw [decide_eq_true_eq]; constructor <;> intro h <;> omega) h2 h3
          · refine no (by simpa using q4) (hj2 _ (fl (by omega)) h2 h3)
        · refine no (by simpa using q3) (hj2 _ (fl (by omega)) h2 h3)
      · exact no (by omega) (hj2 _ (fl (by omega)) h2 h3)
    · exact no (by omega) (hj2 _ (fl (by omega)) h2 h3)
set_option maxHeartbeats 1600000 in
theorem cj0 (s : ByteArray) (i x0 x1 x2 x3 : Nat) (hi : i < s.size) (hs : s.size ≤ 1000000) (b0 : x0 < 256) (b1 : x1 < 256) (b2 : x2 < 256) (b3 : x3 < 256) (hA : ¬ x0 < 128) (w1 : wrap64 ((i : Int) + 1) = ((i + 1 : Nat) : Int)) (w2 : wrap64 ((i : Int) + 2) = ((i + 2 : Nat) : Int)) (w3 : wrap64 ((i : Int) + 3) = ((i + 3 : Nat) : Int)) (t1 : letterboxref08_tail.f s ((i + 1 : Nat) : Int) = some (decide (i + 1 < s.size ∧ x1 / 64 = 2))) (t2 : letterboxref08_tail.f s ((i + 2 : Nat) : Int) = some (decide (i + 2 < s.size ∧ x2 / 64 = 2))) (t3 : letterboxref08_tail.f s ((i + 3 : Nat) : Int) = some (decide (i + 3 < s.size ∧ x3 / 64 = 2))) (c1 : bt s ((i + 1 : Nat) : Int) = (x1 : Int)) (c2 : bt s ((i + 2 : Nat) : Int) = (x2 : Int)) (c3 : bt s ((i + 3 : Nat) : Int) = (x3 : Int)) : ∀ b : Bool, (b = true ↔ (194 ≤ x0 ∧ x0 < 224 ∧ (i + 1 < s.size ∧ x1 / 64 = 2))) → Ev (fun k => letterboxref08_Char.j0 k s (i : Int) (x0 : Int) b) (rch (decodeN (s.size - i) x0 x1 x2 x3)) := by
  have hj1 := cj1 s i x0 x1 x2 x3 hi hs b0 b1 b2 b3 hA w1 w2 w3 t1 t2 t3 c1 c2 c3
  intro b hb
  refine st (fun k => by rw [letterboxref08_Char.j0]) ?_
  rw [w1, w2, c1, t1, t2]
  clear w1 w2 w3 t1 t2 t3 c1 c2 c3
  cases b with
  | true =>
    have h := hb.1 rfl
    have v : wrap64 (wrap64 (wrap64 (wrap64 ((x0 : Int) - 192) * 64) + wrap64 (x1 : Int)) - 128) = ((x0 % 32 * 64 + x1 % 64 : Nat) : Int) := v2_ x0 x1 ⟨h.1, h.2.1⟩ h.2.2.2
    rw [v]
    refine yes rfl (yes (by omega) (yes (by omega) (fin ?_)))
    have hdec : decodeN (s.size - i) x0 x1 x2 x3 = (x0 % 32 * 64 + x1 % 64, 2) := by
      unfold decodeN
      rw [if_neg hA, if_pos (by omega), if_pos (by omega)]
    rw [hdec]; unfold rch; rw [if_neg (by simp)]; rfl
  | false =>
    have h3 : ¬ (194 ≤ x0 ∧ x0 < 224 ∧ (i + 1 < s.size ∧ x1 / 64 = 2)) := fun h => by have := hb.2 h; cases this
    refine no (by decide) ?_
    by_cases q1 : 224 ≤ x0
    · refine yes (by omega) ?_
      by_cases q2 : x0 < 240
      · refine yes (by omega) (bs ?_)
        by_cases q3 : i + 1 < s.size ∧ x1 / 64 = 2
        · refine yes (decide_eq_true q3) (bs ?_)
          exact hj1 _ (by rw [decide_eq_true_eq]; constructor <;> intro h <;> omega) h3
        · refine no (by simpa using q3) (hj1 _ (fl (by omega)) h3)
      · exact no (by omega) (hj1 _ (fl (by omega)) h3)
    · exact no (by omega) (hj1 _ (fl (by omega)) h3)
set_option maxHeartbeats 1600000 in
theorem rchar (s : ByteArray) (i : Nat) (hi : i < s.size) (hs : s.size ≤ 1000000) : Ev (fun k => letterboxref08_Char.f k s (i : Int)) (rch (Utf8.decode s i)) := by
  have b0 := at8_lt s i
  have b1 := at8_lt s (i + 1)
  have b2 := at8_lt s (i + 2)
  have b3 := at8_lt s (i + 3)
  have w1 : wrap64 ((i : Int) + 1) = ((i + 1 : Nat) : Int) := by unfold wrap64; omega
  have w2 : wrap64 ((i : Int) + 2) = ((i + 2 : Nat) : Int) := by unfold wrap64; omega
  have w3 : wrap64 ((i : Int) + 3) = ((i + 3 : Nat) : Int) := by unfold wrap64; omega
  have e : Utf8.decode s i = decodeN (s.size - i) (at8 s i) (at8 s (i + 1)) (at8 s (i + 2)) (at8 s (i + 3)) := by unfold at8; rw [decode_N, ← Lib.size_eq]
  rw [e]
  have t1 := rtail s (i + 1)
  have t2 := rtail s (i + 2)
  have t3 := rtail s (i + 3)
  have c0 := bt_at8 s i
  have c1 := bt_at8 s (i + 1)
  have c2 := bt_at8 s (i + 2)
  have c3 := bt_at8 s (i + 3)
  generalize at8 s i = x0 at *
  generalize at8 s (i + 1) = x1 at *
  generalize at8 s (i + 2) = x2 at *
  generalize at8 s (i + 3) = x3 at *
  have u0 : wrap64 (x0 : Int) = (x0 : Int) := by unfold wrap64; omega
  clear e
  unfold letterboxref08_Char.f
  rw [c0, u0, w1, t1]
  have hj0 := fun hA => cj0 s i x0 x1 x2 x3 hi hs b0 b1 b2 b3 hA w1 w2 w3 t1 t2 t3 c1 c2 c3
  clear u0 c0 w1 w2 w3 t1 t2 t3 c1 c2 c3
  refine yes (by omega) (yes (by omega) ?_)
  by_cases hA : x0 < 128
  · refine yes (by omega) (fin ?_)
    unfold rch decodeN
    rw [if_pos hA, if_neg (by simp; omega)]
    rfl
  refine no (by omega) ?_
  have hj0 := hj0 hA
  by_cases q1 : 194 ≤ x0
  · refine yes (by omega) ?_
    by_cases q2 : x0 < 224
    · refine yes (by omega) (bs ?_)
      exact hj0 _ (by rw [decide_eq_true_eq]; constructor <;> intro h <;> omega)
    · exact no (by omega) (hj0 _ (fl (by omega)))
  · exact no (by omega) (hj0 _ (fl (by omega)))
/- What the document's functions tell of whole texts: the same as the program's charsets, in plain words. -/
theorem width4 (s : ByteArray) (i : Nat) : 1 ≤ (Utf8.decode s i).2 ∧ (Utf8.decode s i).2 ≤ 4 := by
  have h := decodeL_width (s.data.toList.drop i)
  rw [decodeL_drop] at h
  refine ⟨h, ?_⟩
  have e : Utf8.decode s i = decodeN (s.size - i) (at8 s i) (at8 s (i + 1)) (at8 s (i + 2)) (at8 s (i + 3)) := by unfold at8; rw [decode_N, ← Lib.size_eq]
  rw [e]
  rcases decodeN_shape (s.size - i) (at8 s i) (at8 s (i + 1)) (at8 s (i + 2)) (at8 s (i + 3)) with ⟨c, e⟩ | ⟨c1, c2, c3, cv, e⟩ | ⟨c1, c2, c3, c4, cv, cs, e⟩ | ⟨c1, c2, c3, c4, c5, cv, cw, e⟩ | e
  all_goals rw [e]; simp only; omega
theorem rvalid_l (s : ByteArray) (hs : s.size ≤ 1000000) : ∀ (m i : Nat), i ≤ s.size + 4 → s.size - i ≤ m → Ev (fun k => letterboxref08_Valid.l0 k s (i : Int)) (validD (s.data.toList.drop i)) := by
  intro m
  induction m with
  | zero =>
    intro i h1 h2
    refine st (fun k => by rw [letterboxref08_Valid.l0]) (no (by omega) (fin ?_))
    rw [List.drop_eq_nil_of_le (by rw [← Lib.size_eq]; omega), validD_nil]
  | succ m ih =>
    intro i h1 h2
    by_cases hi : i < s.size
    · refine st (fun k => by rw [letterboxref08_Valid.l0]) ?_
      refine yes (by omega) ?_
      refine bnd (rchar s i hi hs) ?_
      have hne : s.data.toList.drop i ≠ [] := by
        intro h
        have := List.drop_eq_nil_iff.1 h
        rw [← Lib.size_eq] at this
        omega
      have hv := validD_step _ hne
      rw [decodeL_drop] at hv
      rw [hv]
      have hw := width4 s i
      by_cases hb : Utf8.decode s i = (65533, 1)
      · rw [hb]
        unfold rch
        rw [if_pos rfl, if_pos (by simp)]
        exact yes rfl (fin rfl)
      · rw [if_neg (fun h => hb (Prod.ext h.1 h.2))]
        unfold rch
        rw [if_neg hb]
        refine no (by simp only; omega) ?_
        dsimp only
        rw [show wrap64 ((i : Int) + ((Utf8.decode s i).2 : Int)) = ((i + (Utf8.decode s i).2 : Nat) : Int) by unfold wrap64; omega, List.drop_drop]
        exact ih _ (by omega) (by omega)
    · refine st (fun k => by rw [letterboxref08_Valid.l0]) (no (by omega) (fin ?_))
      rw [List.drop_eq_nil_of_le (by rw [← Lib.size_eq]; omega), validD_nil]
theorem rvalid (s : ByteArray) (hs : s.size ≤ 1000000) : Ev (fun k => letterboxref08_Valid.f k s) (validD s.data.toList) := by
  have := rvalid_l s hs s.size 0 (by omega) (by omega)
  exact this
theorem runes_nil : runesBytes [] = (⟨#[]⟩ : ByteArray) := rfl
theorem runes_one (x : Int) : runesBytes [x] = Utf8.encode x := by
  unfold runesBytes
  simp
theorem runes_cons (x : Int) (t : List Int) (hx : 0 ≤ x ∧ x ≤ 255) (ht : byte t) : runesBytes (x :: t) = Utf8.encode x ++ runesBytes t := by
  have := runes_append [x] t (byte_one hx.1 hx.2) ht
  rw [runes_one] at this
  exact this
theorem enc_low (x : Int) (hx : 0 ≤ x ∧ x < 128) : Utf8.encode x = strOfNums [x] := by
  apply ByteArray.ext
  apply Array.ext'
  rw [enc_list, strL]
  unfold encodeRune
  rw [encodeRuneZ_one (by omega) (by omega)]
  rfl
theorem enc_mid (x : Int) (hx : 128 ≤ x ∧ x ≤ 255) : Utf8.encode x = strOfNums [192 + x / 64, 128 + x % 64] := by
  apply ByteArray.ext
  apply Array.ext'
  rw [enc_list, strL]
  unfold encodeRune
  rw [encodeRuneZ_two (by omega) (by omega)]
  rfl
theorem bytes_extract (s : ByteArray) (i : Nat) (hi : i < s.size) : s.extract i (i + 1) = strOfNums [rd (bytesOf s) (i : Int)] := by
  have h := str_extract (bytesOf s) i (i + 1)
  rw [str_bytes] at h
  rw [h]
  congr 1
  have hl : i < (bytesOf s).length := by rw [size_bytes]; exact hi
  rw [rd_at _ _ hl, List.drop_take]
  rw [show i + 1 - i = 1 by omega, List.drop_eq_getElem_cons hl]
  rfl
theorem rtext_l (s : ByteArray) (hs : s.size ≤ 1000000) (kk : Nat) (hk : kk = 1 ∨ kk = 2) : ∀ (m i : Nat) (out : ByteArray), i ≤ s.size → s.size - i ≤ m → out.size + 4 * (s.size - i) ≤ 4000000 →
    Ev (fun k => letterboxref08_Text.l0 k s (kk : Int) out (i : Int)) (if ((bytesOf s).drop i).all (fun x => decide (x < szk kk)) = true then (out ++ runesBytes ((bytesOf s).drop i), 0) else (⟨#[]⟩, 21)) := by
  have hlen := size_bytes s
  have hby : byte (bytesOf s) := byte_bytes s
  have fine : ∀ (i : Nat) (out : ByteArray), ¬ i < s.size → Ev (fun k => letterboxref08_Text.l0 k s (kk : Int) out (i : Int)) (if ((bytesOf s).drop i).all (fun x => decide (x < szk kk)) = true then (out ++ runesBytes ((bytesOf s).drop i), 0) else (⟨#[]⟩, 21)) := by
    intro i out h
    refine st (fun k => by rw [letterboxref08_Text.l0]) (no (by omega) (fin ?_))
    rw [List.drop_eq_nil_of_le (by omega), runes_nil, if_pos (by rfl)]
    rw [show out ++ (⟨#[]⟩ : ByteArray) = out from ByteArray.append_empty]
  intro m
  induction m with
  | zero => intro i out h1 h2 h3; exact fine i out (by omega)
  | succ m ih =>
    intro i out h1 h2 h3
    by_cases hi : i < s.size
    · refine st (fun k => by rw [letterboxref08_Text.l0]) ?_
      have hd := drop_rd (bytesOf s) i (by omega)
      have hx := hby _ (rd_mem (bytesOf s) i (by omega))
      have he := bytes_extract s i hi
      have hw : wrap64 ((i : Int) + 1) = ((i + 1 : Nat) : Int) := by unfold wrap64; omega
      rw [bt_bytes, hw, Int.toNat_natCast, Int.toNat_natCast, he, hd]
      have ht : byte ((bytesOf s).drop (i + 1)) := byte_drop hby _
      have IH := fun out => ih (i + 1) out (by omega) (by omega)
      generalize rd (bytesOf s) (i : Int) = x at *
      generalize (bytesOf s).drop (i + 1) = t at *
      rw [runes_cons x t hx ht, List.all_cons]
      refine yes (by omega) (yes (by omega) ?_)
      by_cases hlow : x < 128
      · have hz : (strOfNums [x]).size = 1 := strOfNums_size _
        refine yes hlow (yes (by omega) (yes (by omega) (yes (by omega) ?_)))
        have h4 := IH (out ++ strOfNums [x]) (by rw [ByteArray.size_append]; omega)
        rw [enc_low x ⟨hx.1, hlow⟩, decide_eq_true (show x < szk kk by unfold szk; split <;> omega), Bool.true_and, ← ByteArray.append_assoc]
        exact h4
      · refine no hlow ?_
        rcases hk with rfl | rfl
        · rw [show szk 1 = 128 from rfl, decide_eq_false hlow, Bool.false_and, if_neg (by decide)]
          exact no (by decide) (fin rfl)
        · have ey : ([(192 + ((Int.tdiv x 64) % 256)) % 256, (128 + (Int.tmod x 64)) % 256] : List Int) = [192 + x / 64, 128 + x % 64] := by
            rw [Int.tdiv_eq_ediv_of_nonneg hx.1, Int.tmod_eq_emod_of_nonneg hx.1, show (192 + x / 64 % 256) % 256 = 192 + x / 64 by omega, show (128 + x % 64) % 256 = 128 + x % 64 by omega]
          rw [ey]
          have hz : (strOfNums [192 + x / 64, 128 + x % 64]).size = 2 := strOfNums_size _
          refine yes (by decide) (bs ?_)
          refine yes (by omega) ?_
          have h4 := IH (out ++ strOfNums [192 + x / 64, 128 + x % 64]) (by rw [ByteArray.size_append]; omega)
          rw [enc_mid x ⟨by omega, hx.2⟩, decide_eq_true (show x < szk 2 by unfold szk; rw [if_neg (by decide)]; omega), Bool.true_and, ← ByteArray.append_assoc]
          exact h4
    · exact fine i out hi
theorem rtext (a s : ByteArray) (ha : a.size ≤ 1000000) (hs : s.size ≤ 1000000) : Ev (fun k => letterboxref08_Text.f k a s) (cs_textv (cs_kind (cs_fold a)) (bytesOf s)) := by
  unfold letterboxref08_Text.f
  refine bnd (rkind a ha) ?_
  rcases cs_kind4 (cs_fold a) with h | h | h | h
  · rw [h, textv_0]; exact yes (by decide) (fin rfl)
  · rw [h, textv_n (.inl rfl)]
    refine no (by decide) (no (by decide) ?_)
    have := rtext_l s hs 1 (.inl rfl) s.size 0 ⟨#[]⟩ (by omega) (by omega) (by show 0 + _ ≤ _; omega)
    rw [List.drop_zero, show (⟨#[]⟩ : ByteArray) ++ runesBytes (bytesOf s) = runesBytes (bytesOf s) from ByteArray.empty_append] at this
    exact this
  · rw [h, textv_n (.inr rfl)]
    refine no (by decide) (no (by decide) ?_)
    have := rtext_l s hs 2 (.inr rfl) s.size 0 ⟨#[]⟩ (by omega) (by omega) (by show 0 + _ ≤ _; omega)
    rw [List.drop_zero, show (⟨#[]⟩ : ByteArray) ++ runesBytes (bytesOf s) = runesBytes (bytesOf s) from ByteArray.empty_append] at this
    exact this
  · rw [h, textv_3]
    refine no (by decide) (yes (by decide) ?_)
    refine bnd (rvalid s hs) ?_
    have ev : validL (bytesOf s) = validD s.data.toList := by unfold validL; rw [u8s_bytes]
    rw [ev, str_bytes]
    by_cases hv : validD s.data.toList = true
    · rw [if_pos hv, if_pos hv]; exact fin rfl
    · rw [if_neg hv, if_neg hv]; exact fin rfl
theorem rbytes_l (s : ByteArray) (hs : s.size ≤ 1000000) (kk : Nat) (hk : kk = 1 ∨ kk = 2) : ∀ (rs done : List Nat) (acc : List Int), s.data.toList = E done ++ E rs → (∀ c ∈ rs, good c) → acc.length + rs.length ≤ 1000000 →
    Ev (fun k => letterboxref08_Bytes.l0 k s (kk : Int) acc ((E done).length : Int)) (if rs.all (fun (c : Nat) => decide ((c : Int) < szk kk)) = true then (strOfNums (acc ++ rs.map (fun (c : Nat) => (c : Int) % 256)), 0) else (⟨#[]⟩, 21)) := by
  intro rs
  induction rs with
  | nil =>
    intro done acc hd _ _
    have hz : s.size = (E done).length := by rw [Lib.size_eq, hd]; simp [E]
    refine st (fun k => by rw [letterboxref08_Bytes.l0]) (no (by omega) (fin ?_))
    simp
  | cons c rs ih =>
    intro done acc hd hg hl
    have hc := hg c (List.mem_cons_self)
    have hlen := (enc_len (c : Int))
    have hz : s.size = (E done).length + (E (c :: rs)).length := by rw [Lib.size_eq, hd, List.length_append]
    have hz2 : (encodeRune (c : Int)).length ≤ (E (c :: rs)).length := by rw [E_cons, List.length_append]; omega
    have hdrop : s.data.toList.drop (E done).length = encodeRune (c : Int) ++ E rs := by rw [hd, List.drop_left, E_cons]
    have hdec : Utf8.decode s (E done).length = (c, (encodeRune (c : Int)).length) := by
      rw [← decodeL_drop, hdrop, dec_enc c hc]
    have hnb : ¬ Utf8.decode s (E done).length = (65533, 1) := by
      intro h
      apply not_bad c hc (E rs)
      unfold bad
      rw [← hdrop, decodeL_drop, h]
      exact ⟨rfl, rfl⟩
    have hi : (E done).length < s.size := by omega
    have hch := rchar s _ hi hs
    have hr : rch (Utf8.decode s (E done).length) = ((c : Int), ((encodeRune (c : Int)).length : Int)) := by
      unfold rch
      rw [if_neg hnb, hdec]
    rw [hr] at hch
    refine st (fun k => by rw [letterboxref08_Bytes.l0]) ?_
    refine yes (by omega) (bnd hch ?_)
    dsimp only
    have hw : wrap64 (((E done).length : Int) + ((encodeRune (c : Int)).length : Int)) = (((E (done ++ [c])).length : Nat) : Int) := by
      rw [E_append, List.length_append, show (E [c]).length = (encodeRune (c : Int)).length by simp [E]]
      unfold wrap64; omega
    rw [hw, List.all_cons]
    have IH := ih (done ++ [c]) (acc ++ [(c : Int) % 256]) (by rw [hd, E_append, List.append_assoc, E_cons]; simp [E]) (fun x hx => hg x (List.mem_cons_of_mem _ hx)) (by simp at hl ⊢; omega)
    have hl2 : acc.length < 140737488355328 := by simp at hl; omega
    have ea : acc ++ [(c : Int) % 256] ++ rs.map (fun (c : Nat) => (c : Int) % 256) = acc ++ (c :: rs).map (fun (c : Nat) => (c : Int) % 256) := by simp
    rw [ea] at IH
    clear hd hz hz2 hdrop hdec hnb hch hr hw
    by_cases h255 : (c : Int) > 255
    · refine yes h255 ?_
      rw [decide_eq_false (show ¬ ((c : Int) < szk kk) by have := szk_le kk; omega), Bool.false_and, if_neg (by decide)]
      exact fin rfl
    · refine no h255 ?_
      rcases hk with rfl | rfl
      · refine yes (by decide) ?_
        by_cases h127 : (c : Int) > 127
        · refine yes h127 ?_
          rw [decide_eq_false (show ¬ ((c : Int) < szk 1) by rw [show szk 1 = 128 from rfl]; omega), Bool.false_and, if_neg (by decide)]
          exact fin rfl
        · refine no h127 (yes hl2 ?_)
          rw [decide_eq_true (show ((c : Int) < szk 1) by rw [show szk 1 = 128 from rfl]; omega), Bool.true_and]
          exact IH
      · refine no (by decide) (yes hl2 ?_)
        rw [decide_eq_true (show ((c : Int) < szk 2) by rw [show szk 2 = 256 from rfl]; omega), Bool.true_and]
        exact IH
theorem rbytes (a s : ByteArray) (ha : a.size ≤ 1000000) (hs : s.size ≤ 1000000) : Ev (fun k => letterboxref08_Bytes.f k a s) (strOfNums (cs_bytv (cs_kind (cs_fold a)) s).1, (cs_bytv (cs_kind (cs_fold a)) s).2) := by
  unfold letterboxref08_Bytes.f
  refine bnd (rkind a ha) ?_
  refine bnd (rvalid s hs) ?_
  have k4 := cs_kind4 (cs_fold a)
  generalize cs_kind (cs_fold a) = kk at *
  by_cases h0 : kk = 0
  · subst h0
    rw [bytv_0]
    refine yes (by decide) (st (fun k => by rw [letterboxref08_Bytes.j0]) ?_)
    exact yes rfl (fin rfl)
  refine no (by omega) (st (fun k => by rw [letterboxref08_Bytes.j0]) ?_)
  cases hv : validD s.data.toList with
  | false =>
    rw [bytv_bad kk s hv]
    exact yes rfl (fin rfl)
  | true =>
    refine no (by decide) ?_
    by_cases h3 : kk = 3
    · subst h3
      rw [bytv_3, hv, if_neg (by decide)]
      simp only
      rw [str_bytes]
      exact yes (by decide) (fin rfl)
    · refine no (by omega) ?_
      have hn : kk = 1 ∨ kk = 2 := by omega
      obtain ⟨rs, hg, he⟩ := valid_runes hv
      rw [bytv_n hn s rs hg he]
      have hlen := E_len rs
      have := rbytes_l s hs kk hn rs [] [] (by simpa [E] using he) hg (by rw [Lib.size_eq, he] at hs; simp; omega)
      refine toE this ?_
      rw [List.nil_append]
      by_cases ha : rs.all (fun (c : Nat) => decide ((c : Int) < szk kk)) = true
      · rw [if_pos ha, if_pos ha]
      · rw [if_neg ha, if_neg ha]; rfl
theorem rknown (a : ByteArray) (ha : a.size ≤ 1000000) : Ev (fun k => letterboxref08_Known.f k a) (cs_kind (cs_fold a) != 0) := by
  unfold letterboxref08_Known.f
  refine bnd (rkind a ha) (fin ?_)
  rcases cs_kind4 (cs_fold a) with h | h | h | h <;> rw [h] <;> rfl
end Go.Proofs.YtoihcdahloddkaaDoor.Ref
