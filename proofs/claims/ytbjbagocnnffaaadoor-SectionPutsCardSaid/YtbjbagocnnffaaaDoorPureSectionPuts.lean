/- The law SectionPuts holds: whether any spec may be, and its texts, are the document's; the program's reader tells it again. -/
import Derived.Test.YtbjbagocnnffaaaDoorSec13
import Derived.Test.YtbjbagocnnffaaaDoorPx15
set_option linter.unusedVariables false
set_option linter.unusedSimpArgs false
namespace Go.Proofs.YtbjbagocnnffaaaDoor.Pure
open Go.RowKit Go.Proofs.YtbjbagocnnffaaaDoor.P Go.Proofs.YtbjbagocnnffaaaDoorW.PrintWords Go.Proofs.YtbjbagocnnffaaaDoorW.PrintLast Go.Proofs.YtbjbagocnnffaaaDoor.Aids Go.Proofs.YtbjbagocnnffaaaDoor.Chars Go.Proofs.YtbjbagocnnffaaaDoor.Sec
def szs (nm : List ByteArray) : Nat := (nm.map ByteArray.size).sum
theorem szs_le : ∀ (nm : List ByteArray) (m : Nat), (∀ x ∈ nm, x.size ≤ m) → szs nm ≤ nm.length * m
  | [], m, _ => by simp [szs]
  | a :: t, m, h => by
    have h1 := h a List.mem_cons_self
    have h2 := szs_le t m (fun x hx => h x (List.mem_cons_of_mem _ hx))
    have h3 : szs (a :: t) = a.size + szs t := by simp [szs]
    rw [h3, List.length_cons, Nat.succ_mul]
    omega
theorem szs_mem : ∀ (nm : List ByteArray), ∀ x ∈ nm, x.size ≤ szs nm
  | a :: t, x, hx => by
    have h3 : szs (a :: t) = a.size + szs t := by simp [szs]
    rcases List.mem_cons.1 hx with rfl | hx
    · omega
    · have := szs_mem t x hx
      omega
theorem szs_take (nm : List ByteArray) (i : Nat) (h : i < nm.length) : szs (nm.take (i + 1)) = szs (nm.take i) + (nm[i]).size := by
  unfold szs
  rw [List.take_succ_eq_append_getElem h, List.map_append, List.sum_append]
  simp
theorem rdS (nm : List ByteArray) (i : Nat) (h : i < nm.length) : rdOf ByteArray.empty nm (i : Int) = nm[i] := by
  unfold rdOf
  rw [Int.toNat_natCast, List.getD_eq_getElem?_getD, List.getElem?_eq_getElem h]
  rfl
theorem pathT_byte (x : Sp) (hq : 0 ≤ x.q ∧ x.q ≤ 5) : byte (pathT x) := by
  unfold pathT
  refine joinL_byte (by omega) _ (fun a ha => ?_)
  rcases List.mem_append.1 ha with ha | ha
  · obtain ⟨n, _, rfl⟩ := List.mem_map.1 ha
    exact digits_byte n
  · by_cases h0 : x.q = 0
    · rw [if_pos h0] at ha; cases ha
    · rw [if_neg h0] at ha
      rw [List.mem_singleton.1 ha]
      exact (word_is ⟨x.q.toNat, by omega⟩).2.1
theorem putL_byte (x : Sp) (hb : ∀ n ∈ x.nm, byte n) (hq : 0 ≤ x.q ∧ x.q ≤ 5) : byte (putL x false) := by
  unfold putL
  refine byte_cons (by omega) (byte_append (byte_append (pathT_byte x hq) ?_) (byte_cons (by omega) (cutT_byte x false)))
  unfold namesT
  split
  · refine byte_cons (by omega) (byte_cons (by omega) (byte_append (joinL_byte (by omega) _ (fun a ha => ?_)) (byte_one (by omega) (by omega))))
    obtain ⟨n, hn, rfl⟩ := List.mem_map.1 ha
    exact nameT_byte (hb n hn)
  · exact byte_nil
theorem putL_len (x : Sp) (hn : ∀ n ∈ x.nm, n.length ≤ 400) (hm : may x = true) (hb : ∀ n ∈ x.nm, byte n) : (putL x false).length ≤ 90000 := by
  obtain ⟨m1, m2, m3, m4, m5⟩ := may_parts hm
  have hp := path_len x hb (fun n h => by have := hn n h; omega) m1 m2 (fun n h => by have := m3 n h; omega) m4 m5
  have hc := cutT_len x false
  have hN : (namesT x).length ≤ 80400 := by
    unfold namesT
    split
    · have := joinL_len 32 802 (x.nm.map nameT) (fun a ha => by
        obtain ⟨n, h, rfl⟩ := List.mem_map.1 ha
        have := nameT_len n
        have := hn n h
        omega)
      rw [List.length_map] at this
      have h3 : x.nm.length * 803 ≤ 100 * 803 := Nat.mul_le_mul_right _ m2
      simp only [List.length_cons, List.length_append, List.length_nil]
      omega
    · simp
  unfold putL
  simp only [List.length_cons, List.length_append]
  omega
theorem puts_j1 (P : List Int) (q : Int) (nm : List ByteArray) (cut : Bool) (fr mn : Int) (h1 : P.length ≤ 80) (h2 : nm.length ≤ 110) (h3 : szs nm ≤ 400) : Ev (fun k => letterboxlaw15_SectionPuts.j1 k false P q nm cut fr mn) true := by
  obtain ⟨L, hL⟩ : ∃ L, L = nm.map bytesOf := ⟨_, rfl⟩
  have hs : strs L = nm := by
    rw [hL]
    unfold strs
    rw [List.map_map]
    exact (List.map_congr_left (fun a _ => str_bytes a)).trans (List.map_id' nm)
  have hLl : L.length = nm.length := by rw [hL, List.length_map]
  have hb : ∀ n ∈ L, byte n := by
    intro n hn
    rw [hL] at hn
    obtain ⟨s, _, rfl⟩ := List.mem_map.1 hn
    exact byte_bytes s
  have hn : ∀ n ∈ L, n.length ≤ 400 := by
    intro n hn
    rw [hL] at hn
    obtain ⟨s, hs, rfl⟩ := List.mem_map.1 hn
    have := szs_mem nm s hs
    rw [size_bytes]
    omega
  obtain ⟨x, hx⟩ : ∃ x : Sp, x = ⟨P, q, L, cut, fr, mn⟩ := ⟨_, rfl⟩
  have e1 : x.p = P := by rw [hx]
  have e2 : x.q = q := by rw [hx]
  have e3 : x.nm = L := by rw [hx]
  have e4 : x.cut = cut := by rw [hx]
  have e5 : x.fr = fr := by rw [hx]
  have e6 : x.mn = mn := by rw [hx]
  rw [← e3] at hs hb hn hLl
  rw [← hs, ← e1, ← e2, ← e4, ← e5, ← e6]
  rw [← e1] at h1
  clear hx e1 e2 e3 e4 e5 e6 hL
  have c1 := check_ok x hb (fun n h => by have := hn n h; omega) (by omega) (by omega)
  have c2 := rcheck_ok x hb (fun n h => by have := hn n h; omega) (by omega) (by omega)
  have p1 := put_ok x hb (fun n h => by have := hn n h; omega) (by omega) (by omega)
  have p2 := rput_ok x hb (fun n h => by have := hn n h; omega) (by omega) (by omega)
  refine st (fun k => by rw [letterboxlaw15_SectionPuts.j1]) ?_
  refine no (by decide) ?_
  unfold letterboxlaw15_specOf.f
  refine bs ?_
  refine bnd c1 ?_
  refine bnd c2 ?_
  refine yes rfl ?_
  refine bnd (p1 false) ?_
  refine bnd (p2 false) ?_
  refine yes rfl ?_
  refine bnd (p1 true) ?_
  refine bnd (p2 true) ?_
  rw [bne_self_eq_false]
  refine st (fun k => by rw [letterboxlaw15_SectionPuts.j2]) ?_
  refine no (by decide) ?_
  refine bnd (p1 false) ?_
  by_cases hm : may x = true
  · rw [if_pos hm] at c1 ⊢
    obtain ⟨m1, m2, m3, m4, m5⟩ := may_parts hm
    have hpo := parse_ok (putL_byte x hb m4) (putL_len x hn hm hb)
    have hpG : parseL (putL x false) = some x := (prog_G _ x).2 (put_G hm)
    rw [hpG] at hpo
    have ho : outL (some x) = (x.p, x.q, strs x.nm, x.cut, x.fr, x.mn, 0) := if_pos hm
    rw [ho] at hpo
    refine bnd hpo ?_
    refine bnd c1 ?_
    refine yes rfl ?_
    refine yes rfl ?_
    dsimp only
    refine bs ?_
    have hsl : (strs x.nm).length = x.nm.length := by unfold strs; rw [List.length_map]
    refine bnd (same_ok x.p x.q (strs x.nm) x.cut x.fr x.mn (by omega) (by omega)) ?_
    exact fin rfl
  · rw [if_neg hm] at c1 ⊢
    have hpo := parse_ok (t := []) byte_nil (by simp)
    have ho : outL (parseL []) = sec_none := by decide
    rw [ho] at hpo
    refine bnd hpo ?_
    refine bnd c1 ?_
    refine no (by decide) ?_
    exact fin rfl
theorem puts_end (P : List Int) (q : Int) (nm : List ByteArray) (cut : Bool) (fr mn : Int) (x4 : Int) (h4 : nm.length ≤ 110 → x4 = (szs nm : Int)) : Ev (fun k => letterboxlaw15_SectionPuts.l0 k x4 (nm.length : Int) P q nm cut fr mn) true := by
  refine st (fun k => by rw [letterboxlaw15_SectionPuts.l0]) ?_
  refine no (by omega) ?_
  have hT : Ev (fun k => letterboxlaw15_SectionPuts.j1 k true P q nm cut fr mn) true := st (fun k => by rw [letterboxlaw15_SectionPuts.j1]) (yes rfl (fin rfl))
  by_cases h1 : (P.length : Int) > 80
  · exact yes h1 hT
  · refine no h1 ?_
    by_cases h2 : (nm.length : Int) > 110
    · exact yes h2 hT
    · refine no h2 ?_
      have := h4 (by omega)
      by_cases h3 : x4 > 400
      · rw [decide_eq_true h3]; exact hT
      · rw [decide_eq_false h3]
        exact puts_j1 P q nm cut fr mn (by omega) (by omega) (by omega)
theorem puts_l0 (P : List Int) (q : Int) (nm : List ByteArray) (cut : Bool) (fr mn : Int) (hl : nm.length ≤ maxLen) (hs : ∀ x ∈ nm, x.size ≤ 140737488351232) : ∀ (d i : Nat) (x4 : Int), nm.length - i ≤ d → i ≤ nm.length → (nm.length ≤ 110 → x4 = (szs (nm.take i) : Int)) → Ev (fun k => letterboxlaw15_SectionPuts.l0 k x4 (i : Int) P q nm cut fr mn) true := by
  have hM : maxLen = 9223372036854775807 := rfl
  intro d
  induction d with
  | zero =>
    intro i x4 h1 h2 h3
    have : i = nm.length := by omega
    subst this
    rw [List.take_length] at h3
    exact puts_end P q nm cut fr mn x4 h3
  | succ d ih =>
    intro i x4 h1 h2 h3
    by_cases hi : i < nm.length
    · have hw : Aside0 (wrap64 ((i : Int) + 1) = ((i + 1 : Nat) : Int)) := ⟨by rw [w64 (by omega) (by omega)]; omega⟩
      refine st (fun k => by rw [letterboxlaw15_SectionPuts.l0]) ?_
      refine yes (by omega) ?_
      refine yes (by omega) ?_
      rw [hw.out, rdS nm i hi]
      refine ih (i + 1) _ (by omega) (by omega) ?_
      intro h110
      have hx := h3 h110
      have hsz := szs_le (nm.take i) 140737488351232 (fun x hx => hs x (List.mem_of_mem_take hx))
      have hsi := hs _ (List.getElem_mem hi)
      have h5 : (nm.take i).length * 140737488351232 ≤ 110 * 140737488351232 := Nat.mul_le_mul_right _ (by rw [List.length_take]; omega)
      rw [szs_take nm i hi, hx, w64 (by omega) (by omega)]
      omega
    · have : i = nm.length := by omega
      subst this
      rw [List.take_length] at h3
      exact puts_end P q nm cut fr mn x4 h3
theorem SectionPuts : ∀ (P : List Int) (q : Int) (nm : List ByteArray) (cut : Bool) (fr mn : Int), (nm.length ≤ maxLen ∧ nm.length * 16 ≤ 140737488351232 ∧ ∀ x ∈ nm, x.size ≤ 140737488351232) → ∃ k, letterboxlaw15_SectionPuts.f k P q nm cut fr mn = some true := by
  intro P q nm cut fr mn h
  refine Ev.rounds (g := fun k => letterboxlaw15_SectionPuts.f k P q nm cut fr mn) ?_
  unfold letterboxlaw15_SectionPuts.f
  refine bnd awake (yes rfl ?_)
  exact puts_l0 P q nm cut fr mn h.1 h.2.2 nm.length 0 0 (by omega) (by omega) (fun _ => by simp [szs])
end Go.Proofs.YtbjbagocnnffaaaDoor.Pure
